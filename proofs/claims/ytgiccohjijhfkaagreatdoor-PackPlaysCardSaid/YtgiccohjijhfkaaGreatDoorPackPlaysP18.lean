/- Part 18. -/
import Derived.Lib.LaidU8T
import Derived.Stop.LaidErr
import Derived.Test.YtgiccohjijhfkaaGreatDoorCards
import Derived.Test.YtgiccohjijhfkaaGreatDoorPackPlaysP17
set_option maxRecDepth 100000
set_option maxHeartbeats 4000000
namespace Go.Proofs.YtgiccohjijhfkaaGreatDoor
section
open Go.RowKit Sha
section
variable {B gs gd gr c:Nat} {w:World} {D:DiskD} {W:Option Wri} {P:Option (Int×Scn)} {pw pp:Option Addr} {is cl po fw:Bool} {n pn fg:Int} {uL fL:Value}
theorem Yk (l:List Ent):(Jb l).1.all Ze=true:=List.all_eq_true.2 fun _ h=>Qux h
theorem Qtj {w0:World} {E:DiskD} {V:Option Wri} {pW:Option Addr} {nW:Option Wri} {L M:List Nat} {f:FuncId} {args:Array Value} {r:Int×DiskD} (h:PX B w gs gd gr D E W V P pw pp is n uL cl fL fg fw pn po pW nW L M) (hT:PTabs B w) (hcw:Chg (fun k=>B≤k) w0 w)
  (hc:∀ S,ROwn B w gr E S→Calls Tryz.prog f args w (RPost gr S w r)):Calls Tryz.prog f args w fun e w'=>e=.returned (.int .i64 r.1)∧PX B w' gs gd gr D r.2 W V P pw pp is n uL cl fL fg fw pn po pW nW L M∧Kps B w0 w L M w':=by
 obtain ⟨S,hd,hB,hLS,hk⟩:=h.rdsk;refine (hc S hd).mono ?_;rintro e_ w' ⟨rfl,hd1,hX⟩;obtain ⟨h1,h2⟩:=hk _ _ _ hX (hd.step hd1 hX hB) (fun k hk=>hk.elim .inl (fun e=>.inr e.1));exact ⟨Z,h1,Kps.of hT hcw h2⟩
theorem Quz (D:DiskD) (m:Int):Yt (Us D m).1:=by
 unfold Us
 split
 ·exact fun e he=>by cases he
 split
 ·exact fun e he=>by cases he
 ·exact Qqb _
theorem reb_S32 {m:Int} (hS:Yt (QB D m).1.l):Yt (Q8 D m).1.1:=by
 unfold Q8
 split
 ·exact fun e he=>by cases he
 split
 ·exact fun e he=>by cases he
 ·exact Q5 hS
theorem reb_len {m:Int} (hl:(QB D m).1.l.length≤1480):(Q8 D m).1.1.length≤1480:=by
 have:=JQ (QB D m).1.l
 unfold Q8
 split
 ·simp
 split
 ·simp
 ·simp only; omega
theorem Qgr {m:Int} (h0:(QB D m).2=0):(Q8 D m).1.2=(JK D m (Jb (QB D m).1.l).1).1∧((JK D m (Jb (QB D m).1.l).1).1≠0→(Q8 D m).1.1=[])∧((JK D m (Jb (QB D m).1.l).1).1=0→(Q8 D m).1.1=(Jb (QB D m).1.l).1)∧(Q8 D m).2=(JK D m (Jb (QB D m).1.l).1).2:=by
 unfold Q8;rw [if_neg (by rw [h0]; exact fun e=>e rfl)]
 by_cases h1:(JK D m (Jb (QB D m).1.l).1).1=0
 ·rw [if_neg (by rw [h1]; exact fun e=>e rfl)];exact ⟨h1.symm,fun e=>absurd h1 e,fun _=>rfl,Z⟩
 ·rw [if_pos h1];exact ⟨Z,fun _=>rfl,fun e=>absurd e h1,Z⟩
theorem Qbj {m:Int} (h0:(QB D m).2≠0):(Q8 D m).1.2=(QB D m).2∧(Q8 D m).1.1=[]∧(Q8 D m).2=D:=by
 unfold Q8;rw [if_pos h0];exact ⟨Z,Z,Z⟩
theorem Qry (hG:PlG c D W) (m:Int):(Us D m).1.length≤1000000:=by
 have h1:(Jo D (Zz m)).1.length<1000000:=by
  cases hm:mget D.files (Zz m) with
  | none=>rw [Zd hm]; simp
  | some f=>rw [Zc hm]; exact hG.idx m f hm
 have h2:=Qof (Jo D (Zz m)).1;unfold Us
 split
 ·simp
 split
 ·simp
 ·omega
theorem Qsh (h:PX B w gs gd gr D D W W P pw pp is n uL cl fL fg fw pn po none none [] []) (hG:PlG c D W) (hc:c≤50) (hT:PTabs B w) (ask m at_:Int) (d:List UInt8) (pa:Option Addr) (pl pc:Nat) :
  Calls Tryz.prog 22 #[.pointer (some ⟨gs,0,none⟩),.agg #[.int .i64 ask,.int .i64 m,.int .i64 at_,Qv d,.slice pa pl pc]] w (XL B gs gd gr c w):=by
 have hBq:=h.hB;have hok:=hG.good.ok;have hbud:DBud D:=hG.good.bud Qb;have hfew:=hG.few;have hpl:=hG.popen Qb m;have hpl2:=XQ hok m;have hpS:=hpl2.2.2.s32;have hml:=JQ (QB D m).1.l;have hl32:=Quz D m;have hbl:=reb_len (D:=D) (m:=m) hpl;have hb32:=reb_S32 (D:=D) (m:=m) hpS;have hll:=Qry hG m
 refine Qj (args:=[.pointer (some ⟨gs,0,none⟩),.agg #[.int .i64 ask,.int .i64 m,.int .i64 at_,Qv d,.slice pa pl pc]]) 155 Tryz.func22 Z Z Z<|Qt [(0,.pointer (some ⟨gs,0,none⟩)),(1,.agg #[.int .i64 ask,.int .i64 m,.int .i64 at_,Qv d,.slice pa pl pc])] ?_ ⟨Z,Z,tvA⟩
 have hcw:=Chg.refl (fun k=>B≤k) w
 refine Qa<|J1 Z Z (fun g3 w1 hB3 hg3 hb hl3=>?_)
 replace hcw:=hcw.then_below hb;replace h:=h.add hb [g3] (fun g_ hg_=>by rw [List.mem_singleton.1 hg_]; exact ⟨hg3,hl3⟩);have hoB3:=(h.mem (g:=g3) Q0).1;replace hT:=hT.bel hb;have zz1:=hb.size;clear hb
 refine sa Z Z<|Wn<|tN<|Qe<|Qa<|st (Qk Vx Z) Z<|st (Qi Z hB3 uz3 Z Z) Z<|Wn<|tN<|Qp<|Qa<|st (QL Z Z) Z<|sa Z Z<|Wn<|tN<|Qx Z (fun h16=>?_) (fun h16=>?_)
 ·replace h16:=Qs h16
  refine Qe<|Qa<|sm Z Z<|st (Qc Z) Z<|st (Qk KG Z) Z<|st (Qk Qdo Z) Z<|st (Qi Z h.blk uz4 Z Z) Z<|st (Jk Z) Z<|Wn<|tN<|Qx Z (fun h23=>?_) (fun h23=>?_)
  ·replace h23:=Qs h23
   refine Qa<|sa Z Z<|Wn<|tN<|Qg<|tR<|bR<|tR ?_
   exact (rT Z Z (h.done hG.mono hcw)).1
  ·replace h23:=Qs h23
   obtain ⟨x,rfl⟩:∃ x,W=some x:=by cases W with|none=>rw [(h.vr.1 rfl).1] at h23; exact absurd h23 Q0|some x=>exact ⟨x,rfl⟩
   obtain ⟨rfl,rfl,rfl,hLr⟩:=h.vr.2 x rfl;obtain ⟨gw,gx,gm,v,S,rfl,hA,_⟩:=h.wri;obtain ⟨hxl,hxr⟩:=hG.wl x rfl;have hs32:Yt x.l:=hA.scn.s32;have hxm:=JQ x.l;have hGa:=hG.save m (Q5 hs32) Qb;clear hLr hA
   refine Qf<|tN<|QS (fun G=>Blk G gs 41 (ZW gd gr (some ⟨gw,0,none⟩) pp true x.n uL x.closed fL fg fw pn po)∧Blk G g3 44 #[.int .i64 ask,.int .i64 m,.int .i64 at_,Qv d,.slice pa pl pc]) [0,1,2,3,4,5,6,7,8,9,12,13,14,15,16,17,18,19,20,21,22,10,11,23,24,25,26] [Y,Y,Y,Y,Y,Y,Y,Y,Y,Y,Y,Y,Y,Y,Y,Y,Y,Y,Y,Y,Y,false,false,false,false,Y,Y] Qo Qo (⟨h.blk.drew,hB3.drew⟩) ?_
   obtain ⟨w2,hw_,hb⟩:=QN w1;rw [← hw_];clear hw_;have hS:=hb;replace hcw:=hcw.then_below hb;replace h:=h.bel hb;replace hT:=hT.bel hb;replace hB3:=hB3.bel hb;have zz2:=hb.size;clear hb
   refine oY Z (fun G U=>(Qd Z)) Z<|oY Z (fun G U=>(Qc Z)) Z<|oY Z (fun G U=>(Qk XC Z)) Z<|oY Z (fun G U=>(Qi Z U.1 uz23 Z Z)) Z<|oY Z (fun G U=>(Qk J4 Z)) Z<|oY Z (fun G U=>(Qi Z U.2 uz3 Z Z)) Z<|oY Z (fun G U=>(Qd Z)) Z<|oY Z (fun G U=>(Qc Z)) Z<|oY Z (fun G U=>(Qk Yr Z)) Z<|oY Z (fun G U=>(Qi Z U.1 uz33 Z Z)) Z<|oY Z (fun G U=>(Qd Z)) Z<|oY Z (fun G U=>(Qc Z)) Z<|oY Z (fun G U=>(Qk ZO Z)) Z<|oY Z (fun G U=>(Qi Z U.1 uz27 Z Z)) Z<|oY Z (fun G U=>(Qk J4 Z)) Z<|oY Z (fun G U=>(Qi Z U.2 uz3 Z Z)) Z<|oY Z (fun G U=>(Qd Z)) Z<|oY Z (fun G U=>(Qc Z)) Z<|oY Z (fun G U=>(Qk KG Z)) Z<|oY Z (fun G U=>(Qk Y1 Z)) Z<|oY Z (fun G U=>(Qi Z U.1 uz35 Z Z)) Z ?_
   obtain ⟨gw2,gx2,gm2,v2,S2,hgw,hA,_⟩:=h.wri
   obtain rfl:gw=gw2:=by injection hgw with e; injection e
   refine oL Z (fun Q_ hQ_ hP_=>(sc _ fz41 Z Qo Z Z ((YQ hA Qb).mono ?_)));rintro e_ w3 ⟨u,rfl,hE,hO,hb⟩;refine cR ?_
   have hul:∀ k,u.ownBlock=some k→k∈u.ownBlock.toList.filter (· < (w3).heap.size)++[g3]∨(w3).heap.size≤k:=fun k hk=>by
    by_cases hl:k<(w3).heap.size
    ·exact .inl<|List.mem_append_left _<|List.mem_filter.2 ⟨Option.mem_toList.2 hk,by simpa using hl⟩
    ·exact .inr Qb
   replace h:=h.add hb (u.ownBlock.toList.filter (· < (w3).heap.size)) (fun k hk=>by
    obtain ⟨h1,h2⟩:=List.mem_filter.1 hk
    exact ⟨hO k (Option.mem_toList.1 h1),by simpa using h2⟩)
   replace hT:=hT.bel hb;replace hB3:=hB3.bel hb;replace hcw:=hcw.then_below hb;have zz3:=hb.size;clear hb hA
   refine Wn<|hQ_ _ _ (⟨h.blk,hB3⟩) ?_
   clear hQ_ hP_ Q_;refine oL Z (fun Q_ hQ_ hP_=>(sc _ Tryz.func62 Z Qo Z Z ((xsave h hT hcw (70000*c) m u _ hG.good Qb hE (Q5 hs32) hul Qb).mono ?_)));rintro e_ w4 ⟨rfl,h1,hT,hcw,zz4,hX⟩;refine cR ?_;replace hB3:=hB3.chg hX (fun e=>e.2.1 Q0);clear hX hE hul h;have h:=h1;clear h1
   refine Wn<|hQ_ _ _ (⟨h.blk,hB3⟩) ?_
   clear hQ_ hP_ Q_;refine oL Z (fun Q_ hQ_ hP_=>(sc _ fz43 Z Qo Z Z ((KK uL x.l _ (h.vr.2 _ Z).2.2.2.reads Qb).mono ?_)));rintro e_ w5 ⟨us,rfl,hRs,hOs,hb⟩;refine cR ?_;replace h:=h.add hb us.ownBlock.toList (fun k hk=>hOs k (Option.mem_toList.1 hk));replace hT:=hT.bel hb;replace hB3:=hB3.bel hb;replace hcw:=hcw.then_below hb;have zz5:=hb.size;clear hb
   refine Wn<|hQ_ _ _ (⟨h.blk,hB3⟩) ?_
   clear hQ_ hP_ Q_;refine oL Z (fun Q_ hQ_ hP_=>(sc _ fz63 Z Qo Z Z ((Qbq h hT hcw (70000*c) m us _ hG.good Qb Qb hG.q hRs (Q5 hs32) (Yk _) (fun k hk=>List.mem_append_left _ (Option.mem_toList.2 hk)) Qb).mono ?_)));rintro e_ w6 ⟨rfl,h1,hT,hcw,zz6,hX⟩;refine cR ?_;replace hB3:=hB3.chg hX (fun e=>e.2.1 Q0);clear hX hRs h;have h:=h1;clear h1
   refine Wn<|hQ_ _ _ (⟨h.blk,hB3⟩) ?_
   clear hQ_ hP_ Q_
   refine oY Z (fun G U=>(QL Z Z)) Z<|oY Z (fun G U=>(Qy Z)) Z<|oN<|nN<|Qg<|bR<|tR ?_
   rw [decide_eq_true rfl];exact (rT Z Z (h.done hGa hcw)).1
 ·replace h16:=Qs h16
  refine Qa<|st (QL Z Z) Z<|sa Z Z<|Wn<|tN<|Qx Z (fun h50=>?_) (fun h50=>?_)
  ·replace h50:=Qs h50;refine Y8 (fun G=>Blk G gs 41 (ZW gd gr pw pp is n uL cl fL fg fw pn po)∧Blk G g3 44 #[.int .i64 ask,.int .i64 m,.int .i64 at_,Qv d,.slice pa pl pc]) (.yes 0 (.yes 1 (.yes 2 (.yes 3 (.yes 4 (.yes 5 (.pick (.alt 6 (.yes 7 (.yes 8 (.yes 9 (.pick (.alt 10 (.pick (.alt 11 (.yes 12 (.nil)) (.no))) (.no)))))) (.alt 10 (.pick (.alt 6 (.yes 7 (.yes 8 (.yes 9 (.pick (.alt 11 (.yes 12 (.nil)) (.no)))))) (.no))) (.no)))))))))) Qo Qo (⟨h.blk.drew,hB3.drew⟩) ?_;obtain ⟨w7,hw_,hb⟩:=QN w1;rw [← hw_];clear hw_;have hS:=hb;replace hcw:=hcw.then_below hb;replace h:=h.bel hb;replace hT:=hT.bel hb;replace hB3:=hB3.bel hb;have zz7:=hb.size;clear hb
   refine uY Z (fun G U=>(Qd Z)) Z<|uY Z (fun G U=>(Qc Z)) Z<|uY Z (fun G U=>(Qk XC Z)) Z<|uY Z (fun G U=>(Qi Z U.1 uz23 Z Z)) Z<|uY Z (fun G U=>(Qk J4 Z)) Z<|uY Z (fun G U=>(Qi Z U.2 uz3 Z Z)) Z<|uP<|uA Z (fun Q_ hQ_ hP_=>?_)<|uA Z (fun Q_ hQ_ hP_=>?_) u0
   ·obtain ⟨S,hd,_⟩:=h.dsk
    refine sc _ Tryz.func64 Z Qo Z Z<|(Qey hd.at_ hok hT (fun f hf=>by have:=hG.idx m f hf; omega)).mono ?_
    rintro e_ w8 ⟨u,rfl,hE,hO,hb⟩;refine cR ?_;replace hcw:=hcw.then_below hb;replace h:=h.bel hb;replace hT:=hT.bel hb;replace hB3:=hB3.bel hb;have zz8:=hb.size;clear hb
    refine Wn<|hQ_ _ _ (⟨h.blk,hB3⟩) ?_
    clear hQ_ hP_ Q_
    obtain ⟨am,cm,rfl⟩:∃ am cm,u=.slice am (Us D m).1.length cm:=by obtain ⟨_,am,cm,e,_⟩:=hE; exact ⟨am,cm,e⟩
    refine uY Z (fun G U=>(Qd Z)) Z<|uY Z (fun G U=>(Qu Z Z)) Z<|uY Z (fun G U=>(Qu Z Z)) Z<|uP<|uA Z (fun Q_ hQ_ hP_=>?_) u0
    refine Jm inf101 Z (fun g5 w9 hB5 hg5 hb hl5=>?_);replace hcw:=hcw.then_below hb;replace h:=h.add hb [g5] (fun g_ hg_=>by rw [List.mem_singleton.1 hg_]; exact ⟨hg5,hl5⟩);have hoB5:=(h.mem (g:=g5) Q0).1;replace hT:=hT.bel hb;replace hB3:=hB3.bel hb;replace hE:=hE.bel hb;have zz9:=hb.size;clear hb
    refine Wn<|hQ_ _ _ (⟨h.blk,hB3⟩) ?_
    clear hQ_ hP_ Q_
    refine uP<|uA Z (fun Q_ hQ_ hP_=>?_) u0
    refine QY Z Z hB5 siz101 Z (by simp [Value.oneCell']) (fun w10 bB cC=>?_);replace hE:=EntsAt.chgI hE hl32 hB5 cC;replace hB5:=bB;replace h:=h.loc Q0 cC;replace hT:=hT.chg cC (fun k hk=>by have h1:k=g5:=hk; omega);replace hB3:=hB3.chg cC (by show ¬g3=g5; omega);replace hcw:=hcw.next cC (fun i hi=>.inl (by have h1:i=g5:=hi; show B≤i; omega));have zz10:=cC.size;clear bB cC
    refine Wn<|hQ_ _ _ (⟨h.blk,hB3⟩) ?_
    clear hQ_ hP_ Q_
    refine uY Z (fun G U=>(Qy Z)) Z<|uN<|nN<|QS (fun G=>Blk G gs 41 (ZW gd gr pw pp is n uL cl fL fg fw pn po)∧Blk G g3 44 #[.int .i64 ask,.int .i64 m,.int .i64 at_,Qv d,.slice pa pl pc]) [0,1,2,3,4,5,6,7,8,9,10,11] [Y,Y,Y,Y,Y,Y,false,Y,Y,Y,Y,Y] Qo Qo (⟨h.blk.drew,hB3.drew⟩) ?_
    obtain ⟨w11,hw_,hb⟩:=QN w10;rw [← hw_];clear hw_;have hS:=hb;replace hcw:=hcw.then_below hb;replace h:=h.bel hb;replace hT:=hT.bel hb;replace hB3:=hB3.bel hb;replace hE:=hE.bel hb;replace hB5:=hB5.bel hb;have zz11:=hb.size;clear hb
    refine oY Z (fun G U=>(Qd Z)) Z<|oY Z (fun G U=>(Qc Z)) Z<|oY Z (fun G U=>(Qk ZO Z)) Z<|oY Z (fun G U=>(Qi Z U.1 uz27 Z Z)) Z<|oY Z (fun G U=>(Qk J4 Z)) Z<|oY Z (fun G U=>(Qi Z U.2 uz3 Z Z)) Z ?_
    obtain ⟨R,hr,_⟩:=h.rdsk;refine oL Z (fun Q_ hQ_ hP_=>(sc _ Tryz.func65 Z Qo Z Z ((Qgc _ _ _ m _ hr.at_ hok hbud (hG.idx m)).mono ?_)));rintro e_ w12 ⟨u2,rfl,hR2,hb⟩;refine cR ?_;replace hcw:=hcw.then_below hb;replace h:=h.bel hb;replace hT:=hT.bel hb;replace hB3:=hB3.bel hb;replace hE:=hE.bel hb;replace hB5:=hB5.bel hb;have zz12:=hb.size;clear hb
    refine Wn<|hQ_ _ _ (⟨h.blk,hB3⟩) ?_
    clear hQ_ hP_ Q_
    refine oY Z (fun G U=>(Qd Z)) Z<|oY Z (fun G U=>(Qu Z Z)) Z<|oY Z (fun G U=>(Qu Z Z)) Z<|oY Z (fun G U=>(Qy Z)) Z<|oY Z (fun G U=>(Qy Z)) Z<|oN<|nN<|Qa<|sm Z Z<|sm Z Z<|st (QL Z Z) Z<|UP Z (decide_eq_true Z) Z<|gY Z Z Z<|st (QE Z hB5 uz101 Z siz101) Z<|gY Z Z Z<|sc _ fz42 Z Qo Z Z<|(Zx _ _ _ hE hl32 Qb).mono ?_
    rintro e_ w13 ⟨va,rfl,hRa,hOa,hb⟩;refine cR ?_;replace hcw:=hcw.then_below hb;replace h:=h.bel hb;replace hT:=hT.bel hb;replace hB3:=hB3.bel hb;replace hE:=hE.bel hb;replace hB5:=hB5.bel hb;replace hR2:=hR2.bel hb;have zz13:=hb.size;clear hb
    refine gY Z Z Z<|sm Z Z<|gY Z Z Z<|sc _ fz40 Z Qo Z Z (Q3 (JN va u2 _ _ _ hRa.reads hl32 Qb hR2) fun w14 hb=>?_)
    replace hcw:=hcw.then_below hb;replace h:=h.bel hb;replace hT:=hT.bel hb;replace hB3:=hB3.bel hb;replace hE:=hE.bel hb;replace hB5:=hB5.bel hb;replace hR2:=hR2.bel hb;replace hRa:=hRa.bel hb;have zz14:=hb.size;clear hb
    refine st (Qm Z Z) Z<|sa Z Z<|Wn<|tN<|Qg<|bR<|tR ?_
    rw [decide_eq_true rfl];exact (rT Z Z (h.done hG.mono hcw)).1
   ·refine Jm inf101 Z (fun g5 w15 hB5 hg5 hb hl5=>?_);replace hcw:=hcw.then_below hb;replace h:=h.add hb [g5] (fun g_ hg_=>by rw [List.mem_singleton.1 hg_]; exact ⟨hg5,hl5⟩);have hoB5:=(h.mem (g:=g5) Q0).1;replace hT:=hT.bel hb;replace hB3:=hB3.bel hb;have zz15:=hb.size;clear hb
    refine Wn<|hQ_ _ _ (⟨h.blk,hB3⟩) ?_
    clear hQ_ hP_ Q_
    refine uP<|uA Z (fun Q_ hQ_ hP_=>?_) u0
    obtain ⟨S,hd,_⟩:=h.dsk
    refine sc _ Tryz.func64 Z Qo Z Z<|(Qey hd.at_ hok hT (fun f hf=>by have:=hG.idx m f hf; omega)).mono ?_
    rintro e_ w16 ⟨u,rfl,hE,hO,hb⟩;refine cR ?_;replace hcw:=hcw.then_below hb;replace h:=h.bel hb;replace hT:=hT.bel hb;replace hB3:=hB3.bel hb;replace hB5:=hB5.bel hb;have zz16:=hb.size;clear hb
    refine Wn<|hQ_ _ _ (⟨h.blk,hB3⟩) ?_
    clear hQ_ hP_ Q_
    obtain ⟨am,cm,rfl⟩:∃ am cm,u=.slice am (Us D m).1.length cm:=by obtain ⟨_,am,cm,e,_⟩:=hE; exact ⟨am,cm,e⟩
    refine uY Z (fun G U=>(Qd Z)) Z<|uY Z (fun G U=>(Qu Z Z)) Z<|uY Z (fun G U=>(Qu Z Z)) Z<|uP<|uA Z (fun Q_ hQ_ hP_=>?_) u0
    refine QY Z Z hB5 siz101 Z (by simp [Value.oneCell']) (fun w17 bB cC=>?_);replace hE:=EntsAt.chgI hE hl32 hB5 cC;replace hB5:=bB;replace h:=h.loc Q0 cC;replace hT:=hT.chg cC (fun k hk=>by have h1:k=g5:=hk; omega);replace hB3:=hB3.chg cC (by show ¬g3=g5; omega);replace hcw:=hcw.next cC (fun i hi=>.inl (by have h1:i=g5:=hi; show B≤i; omega));have zz17:=cC.size;clear bB cC
    refine Wn<|hQ_ _ _ (⟨h.blk,hB3⟩) ?_
    clear hQ_ hP_ Q_
    refine uY Z (fun G U=>(Qy Z)) Z<|uN<|nN<|QS (fun G=>Blk G gs 41 (ZW gd gr pw pp is n uL cl fL fg fw pn po)∧Blk G g3 44 #[.int .i64 ask,.int .i64 m,.int .i64 at_,Qv d,.slice pa pl pc]) [0,1,2,3,4,5,6,7,8,9,10,11] [Y,Y,Y,Y,Y,Y,false,Y,Y,Y,Y,Y] Qo Qo (⟨h.blk.drew,hB3.drew⟩) ?_
    obtain ⟨w18,hw_,hb⟩:=QN w17;rw [← hw_];clear hw_;have hS:=hb;replace hcw:=hcw.then_below hb;replace h:=h.bel hb;replace hT:=hT.bel hb;replace hB3:=hB3.bel hb;replace hB5:=hB5.bel hb;replace hE:=hE.bel hb;have zz18:=hb.size;clear hb
    refine oY Z (fun G U=>(Qd Z)) Z<|oY Z (fun G U=>(Qc Z)) Z<|oY Z (fun G U=>(Qk ZO Z)) Z<|oY Z (fun G U=>(Qi Z U.1 uz27 Z Z)) Z<|oY Z (fun G U=>(Qk J4 Z)) Z<|oY Z (fun G U=>(Qi Z U.2 uz3 Z Z)) Z ?_
    obtain ⟨R,hr,_⟩:=h.rdsk;refine oL Z (fun Q_ hQ_ hP_=>(sc _ Tryz.func65 Z Qo Z Z ((Qgc _ _ _ m _ hr.at_ hok hbud (hG.idx m)).mono ?_)));rintro e_ w19 ⟨u2,rfl,hR2,hb⟩;refine cR ?_;replace hcw:=hcw.then_below hb;replace h:=h.bel hb;replace hT:=hT.bel hb;replace hB3:=hB3.bel hb;replace hB5:=hB5.bel hb;replace hE:=hE.bel hb;have zz19:=hb.size;clear hb
    refine Wn<|hQ_ _ _ (⟨h.blk,hB3⟩) ?_
    clear hQ_ hP_ Q_
    refine oY Z (fun G U=>(Qd Z)) Z<|oY Z (fun G U=>(Qu Z Z)) Z<|oY Z (fun G U=>(Qu Z Z)) Z<|oY Z (fun G U=>(Qy Z)) Z<|oY Z (fun G U=>(Qy Z)) Z<|oN<|nN<|Qa<|sm Z Z<|sm Z Z<|st (QL Z Z) Z<|UP Z (decide_eq_true Z) Z<|gY Z Z Z<|st (QE Z hB5 uz101 Z siz101) Z<|gY Z Z Z<|sc _ fz42 Z Qo Z Z<|(Zx _ _ _ hE hl32 Qb).mono ?_
    rintro e_ w20 ⟨va,rfl,hRa,hOa,hb⟩;refine cR ?_;replace hcw:=hcw.then_below hb;replace h:=h.bel hb;replace hT:=hT.bel hb;replace hB3:=hB3.bel hb;replace hB5:=hB5.bel hb;replace hE:=hE.bel hb;replace hR2:=hR2.bel hb;have zz20:=hb.size;clear hb
    refine gY Z Z Z<|sm Z Z<|gY Z Z Z<|sc _ fz40 Z Qo Z Z (Q3 (JN va u2 _ _ _ hRa.reads hl32 Qb hR2) fun w21 hb=>?_)
    replace hcw:=hcw.then_below hb;replace h:=h.bel hb;replace hT:=hT.bel hb;replace hB3:=hB3.bel hb;replace hB5:=hB5.bel hb;replace hE:=hE.bel hb;replace hR2:=hR2.bel hb;replace hRa:=hRa.bel hb;have zz21:=hb.size;clear hb
    refine st (Qm Z Z) Z<|sa Z Z<|Wn<|tN<|Qg<|bR<|tR ?_
    rw [decide_eq_true rfl];exact (rT Z Z (h.done hG.mono hcw)).1
  ·replace h50:=Qs h50
   refine Qa<|st (QL Z Z) Z<|sa Z Z<|Wn<|tN<|Qx Z (fun h81=>?_) (fun h81=>?_)
   ·replace h81:=Qs h81;refine Y8 (fun G=>Blk G gs 41 (ZW gd gr pw pp is n uL cl fL fg fw pn po)∧Blk G g3 44 #[.int .i64 ask,.int .i64 m,.int .i64 at_,Qv d,.slice pa pl pc]) (.yes 0 (.yes 1 (.yes 2 (.yes 3 (.yes 4 (.yes 5 (.pick (.alt 6 (.yes 7 (.yes 8 (.yes 9 (.pick (.alt 10 (.pick (.alt 11 (.yes 12 (.nil)) (.no))) (.no)))))) (.alt 10 (.pick (.alt 6 (.yes 7 (.yes 8 (.yes 9 (.pick (.alt 11 (.yes 12 (.nil)) (.no)))))) (.no))) (.no)))))))))) Qo Qo (⟨h.blk.drew,hB3.drew⟩) ?_;obtain ⟨w22,hw_,hb⟩:=QN w1;rw [← hw_];clear hw_;have hS:=hb;replace hcw:=hcw.then_below hb;replace h:=h.bel hb;replace hT:=hT.bel hb;replace hB3:=hB3.bel hb;have zz22:=hb.size;clear hb
    refine uY Z (fun G U=>(Qd Z)) Z<|uY Z (fun G U=>(Qc Z)) Z<|uY Z (fun G U=>(Qk XC Z)) Z<|uY Z (fun G U=>(Qi Z U.1 uz23 Z Z)) Z<|uY Z (fun G U=>(Qk J4 Z)) Z<|uY Z (fun G U=>(Qi Z U.2 uz3 Z Z)) Z<|uP<|uA Z (fun Q_ hQ_ hP_=>?_)<|uA Z (fun Q_ hQ_ hP_=>?_) u0
    ·refine sc _ Tryz.func66 Z Qo Z Z<|(Qjc h hT hcw (70000*c) m hG.good Qb Qb).mono ?_
     rintro e_ w23 ⟨u,lu,rfl,hE,hO,h1,hT,hcw,zz23,hX⟩;refine cR ?_
     first|replace hB3:=hB3.chg hX (fun e=>e.2.1 Q0)|skip
     obtain ⟨am,cm,rfl⟩:∃ am cm,u=.slice am (Q8 D m).1.1.length cm:=by obtain ⟨_,am,cm,e,_⟩:=hE; exact ⟨am,cm,e⟩
     have hul:0<(Q8 D m).1.1.length→∀ k,(Value.slice am (Q8 D m).1.1.length cm).ownBlock=some k→k<(w23).heap.size:=fun h0 k hk=>Reads.ownLt hE h0 hk
     clear hX h;have h:=h1;clear h1
     refine Wn<|hQ_ _ _ (⟨h.blk,hB3⟩) ?_
     clear hQ_ hP_ Q_
     refine uY Z (fun G U=>(Qd Z)) Z<|uY Z (fun G U=>(Qu Z Z)) Z<|uY Z (fun G U=>(Qu Z Z)) Z<|uP<|uA Z (fun Q_ hQ_ hP_=>?_) u0
     refine Jm inf101 Z (fun g9 w24 hB9 hg9 hb hl9=>?_);replace hcw:=hcw.then_below hb;replace h:=h.add hb [g9] (fun g_ hg_=>by rw [List.mem_singleton.1 hg_]; exact ⟨hg9,hl9⟩);have hoB9:=(h.mem (g:=g9) Q0).1;replace hT:=hT.bel hb;replace hB3:=hB3.bel hb;replace hE:=hE.bel hb;have zz24:=hb.size;clear hb
     refine Wn<|hQ_ _ _ (⟨h.blk,hB3⟩) ?_
     clear hQ_ hP_ Q_
     refine uP<|uA Z (fun Q_ hQ_ hP_=>?_) u0
     refine QY Z Z hB9 siz101 Z (by simp [Value.oneCell']) (fun w25 bB cC=>?_);replace hE:=EntsAt.chgI hE hb32 hB9 cC;replace hB9:=bB;replace h:=h.loc Q0 cC;replace hT:=hT.chg cC (fun k hk=>by have h1:k=g9:=hk; omega);replace hB3:=hB3.chg cC (by show ¬g3=g9; omega);replace hcw:=hcw.next cC (fun i hi=>.inl (by have h1:i=g9:=hi; show B≤i; omega));have zz25:=cC.size;clear bB cC
     refine Wn<|hQ_ _ _ (⟨h.blk,hB3⟩) ?_
     clear hQ_ hP_ Q_
     refine uY Z (fun G U=>(Qy Z)) Z<|uN<|nN<|Y8 (fun G=>Blk G gs 41 (ZW gd gr pw pp is n uL cl fL fg fw pn po)∧Blk G g3 44 #[.int .i64 ask,.int .i64 m,.int .i64 at_,Qv d,.slice pa pl pc]) (.yes 0 (.yes 1 (.yes 2 (.yes 3 (.yes 4 (.yes 5 (.pick (.alt 6 (.yes 7 (.yes 8 (.yes 9 (.pick (.alt 10 (.pick (.alt 11 (.yes 12 (.nil)) (.no))) (.no)))))) (.alt 10 (.pick (.alt 6 (.yes 7 (.yes 8 (.yes 9 (.pick (.alt 11 (.yes 12 (.nil)) (.no)))))) (.no))) (.no)))))))))) Qo Qo (⟨h.blk.drew,hB3.drew⟩) ?_
     obtain ⟨w26,hw_,hb⟩:=QN w25;rw [← hw_];clear hw_;have hS:=hb;replace hcw:=hcw.then_below hb;replace h:=h.bel hb;replace hT:=hT.bel hb;replace hB3:=hB3.bel hb;replace hE:=hE.bel hb;replace hB9:=hB9.bel hb;have zz26:=hb.size;clear hb
     refine uY Z (fun G U=>(Qd Z)) Z<|uY Z (fun G U=>(Qc Z)) Z<|uY Z (fun G U=>(Qk ZO Z)) Z<|uY Z (fun G U=>(Qi Z U.1 uz27 Z Z)) Z<|uY Z (fun G U=>(Qk J4 Z)) Z<|uY Z (fun G U=>(Qi Z U.2 uz3 Z Z)) Z<|uP<|uA Z (fun Q_ hQ_ hP_=>?_)<|uA Z (fun Q_ hQ_ hP_=>?_) u0
     ·obtain ⟨R,hr,_⟩:=h.rdsk
      refine sc _ fz51 Z Qo Z Z<|(YO _ _ _ m _ hr.at_ hok hbud).mono ?_
      rintro e_ w27 ⟨uf,rfl,hF,hOu,hb⟩;refine cR ?_;replace hcw:=hcw.then_below hb;replace h:=h.bel hb;replace hT:=hT.bel hb;replace hB3:=hB3.bel hb;replace hE:=hE.bel hb;replace hB9:=hB9.bel hb;have zz27:=hb.size;clear hb
      refine Wn<|hQ_ _ _ (⟨h.blk,hB3⟩) ?_
      clear hQ_ hP_ Q_
      have huf:0<(QB D m).1.l.length→∀ k,uf.ownBlock=some k→k<(w27).heap.size:=fun h1 k hk=>Reads.ownLt hF h1 hk
      have huc:uf.oneCell'=true:=by obtain ⟨a_,c_,rfl,_⟩:=hF.shape; rfl
      refine uY Z (fun G U=>(Qd Z)) Z<|uY Z (fun G U=>(Qu Z Z)) Z<|uY Z (fun G U=>(Qu Z Z)) Z<|uP<|uA Z (fun Q_ hQ_ hP_=>?_) u0
      refine Jm inf39 Z (fun g11 w28 hB11 hg11 hb hl11=>?_);replace hcw:=hcw.then_below hb;replace h:=h.add hb [g11] (fun g_ hg_=>by rw [List.mem_singleton.1 hg_]; exact ⟨hg11,hl11⟩);have hoB11:=(h.mem (g:=g11) Q0).1;replace hT:=hT.bel hb;replace hB3:=hB3.bel hb;replace hE:=hE.bel hb;replace hB9:=hB9.bel hb;replace hF:=hF.bel hb;have zz28:=hb.size;clear hb
      refine Wn<|hQ_ _ _ (⟨h.blk,hB3⟩) ?_
      clear hQ_ hP_ Q_
      refine uP<|uA Z (fun Q_ hQ_ hP_=>?_) u0
      refine QY Z Z hB11 siz39 Z (by show (uf.oneCell' && _)=true; rw [huc]; rfl) (fun w29 bB cC=>?_)
      have hu7:0<(QB D m).1.l.length→∀ k,uf.ownBlock=some k→k≠g11:=by first|(intro h1 k hk e; have:=hOu k hk; omega)|(intro h1 k hk e; have:=huf h1 k hk; omega)
      replace hF:REnts w29 _ _:=Reads.chgS hF cC (fun h1 k hk e=>hu7 h1 k hk e);replace hE:EntsAt w29 _ _:=Reads.chgS hE cC (fun h1 k hk e=>by have h2:k=g11:=e; have:=hul h1 k hk; omega);replace hB11:=bB;replace h:=h.loc Q0 cC;replace hT:=hT.chg cC (fun k hk=>by have h1:k=g11:=hk; omega);replace hB3:=hB3.chg cC (by show ¬g3=g11; omega);replace hB9:=hB9.chg cC (by show ¬g9=g11; omega);replace hcw:=hcw.next cC (fun i hi=>.inl (by have h1:i=g11:=hi; show B≤i; omega));have zz29:=cC.size;clear bB cC
      refine Wn<|hQ_ _ _ (⟨h.blk,hB3⟩) ?_
      clear hQ_ hP_ Q_
      refine uY Z (fun G U=>(Qy Z)) Z<|uN<|nN<|Qa<|st (Qk KH Z) Z<|st (Qi Z hB11 uz35 Z Z) Z<|sc _ fz43 Z Qo Z Z<|(KK uf (QB D m).1.l _ hF Qb).mono ?_
      rintro e_ w30 ⟨us,rfl,hRs,hOs,hb⟩;refine cR ?_;replace h:=h.add hb us.ownBlock.toList (fun k hk=>hOs k (Option.mem_toList.1 hk));replace hT:=hT.bel hb;replace hB3:=hB3.bel hb;replace hB9:=hB9.bel hb;replace hE:=hE.bel hb;replace hcw:=hcw.then_below hb;have zz30:=hb.size;clear hb hF hB11
      refine sa Z Z<|Wn<|tN<|Qe<|Qa<|sm Z Z<|st (QL Z Z) Z<|Wn<|tN<|Qx Z (fun h107=>?_) (fun h107=>?_)
      ·replace h107:=Qs h107;obtain ⟨hpe,hp0,hp1,hp2⟩:=Qgr (D:=D) (m:=m) h107;refine Qan (fun G=>Blk G gs 41 (ZW gd gr pw pp is n uL cl fL fg fw pn po)∧Blk G g3 44 #[.int .i64 ask,.int .i64 m,.int .i64 at_,Qv d,.slice pa pl pc]) [0,1,2,3,4,5,6,7,8] [Y,Y,Y,Y,Y,Y,Y,false,Y] Qo Qo (⟨h.blk.drew,hB3.drew⟩) ?_;obtain ⟨w31,hw_,hb⟩:=QN w30;rw [← hw_];clear hw_;have hS:=hb;replace hcw:=hcw.then_below hb;replace h:=h.bel hb;replace hT:=hT.bel hb;replace hB3:=hB3.bel hb;replace hE:=hE.bel hb;replace hB9:=hB9.bel hb;replace hRs:=hRs.bel hb;have zz31:=hb.size;clear hb
       refine oY Z (fun G U=>(Qd Z)) Z<|oY Z (fun G U=>(Qc Z)) Z<|oY Z (fun G U=>(Qk ZO Z)) Z<|oY Z (fun G U=>(Qi Z U.1 uz27 Z Z)) Z<|oY Z (fun G U=>(Qk J4 Z)) Z<|oY Z (fun G U=>(Qi Z U.2 uz3 Z Z)) Z<|oY Z (fun G U=>(Qd Z)) Z<|oL Z (fun Q_ hQ_ hP_=>(sc _ fz63 Z Qo Z Z ((Qbq h hT hcw (70000*c) m us _ hG.good Qb Qb hG.q hRs (Q5 hpS) (Yk _) (fun k hk=>by simp [hk]) Qb).mono ?_)))
       rintro e_ w32 ⟨rfl,h1,hT,hcw,zz32,hX⟩;refine cR ?_;replace hB3:=hB3.chg hX (fun e=>e.2.1 Q0);replace hB9:=hB9.chg hX (fun e=>e.2.1 Q0);replace hE:EntsAt w32 _ _:=Reads.chgS hE hX (fun h0 k hk e=>e.2.1 (by simp [hO h0 k hk]));replace hRs:REnts w32 _ _:=Reads.chgS hRs hX (fun h0 k hk e=>e.2.1 (by simp [hk]));clear hX h;have h:=h1;clear h1
       refine Wn<|hQ_ _ _ (⟨h.blk,hB3⟩) ?_
       clear hQ_ hP_ Q_
       refine oY Z (fun G U=>(Qy Z)) Z<|oN<|nN<|tN<|Qa<|sm Z Z<|sm Z Z<|st (QL Z Z) Z<|UP Z (decide_eq_true hpe) Z<|gY Z Z Z<|sm Z Z<|gY Z Z Z<|st (QC Z Z) Z<|gY Z Z Z<|sb Z Z (fun h122=>?_) (fun h122=>?_)
       ·replace h122:=Qs h122
        refine gY Z Z Z<|st (QE Z hB9 uz101 Z siz101) Z<|gY Z Z Z<|sc _ fz67 Z Qo Z Z (Q3 (Yo _ _ _ hE) fun w33 hb=>?_)
        replace hcw:=hcw.then_below hb;replace h:=h.bel hb;replace hT:=hT.bel hb;replace hB3:=hB3.bel hb;replace hE:=hE.bel hb;replace hB9:=hB9.bel hb;replace hRs:=hRs.bel hb;have zz33:=hb.size;clear hb
        refine gY Z Z Z<|st (QL Z Z) Z<|gY Z Z Z<|st (Qm Z Z) Z<|gY Z Z Z<|UP Z (decide_eq_true (by first|(rw [hp0 h122]; rfl)|(rw [hp0]; rfl))) Z ?_
        refine gN Z Z Z Z<|gN Z Z Z Z<|gN Z Z Z Z<|gU Z Z Z Z<|gU Z Z Z Z<|gU Z Z Z Z<|gU Z Z Z Z<|gN Z Z Z Z<|gY Z Z Z<|st (Qm Z Z) Z<|st (Qm Z Z) Z<|sa Z Z<|Wn<|tN<|Qg<|bR<|tR ?_
        rw [hp2] at h;exact (rT Z Z (h.done (hG.save m (Q5 hpS) Qb) hcw)).1
       ·replace h122:=Qs h122
        refine gN Z Z Z Z<|gN Z Z Z Z<|gN Z Z Z Z<|gY Z Z Z<|st (Qq Z Z) Z<|gY Z Z Z<|sm Z Z<|gY Z Z Z<|sm Z Z<|gY Z Z Z<|st (QL Z Z) Z<|gY Z Z Z<|UP Z (decide_eq_true (Classical.not_not.1 h122)) Z<|gY Z Z Z<|st (QE Z hB9 uz101 Z siz101) Z<|gY Z Z Z<|sc _ fz42 Z Qo Z Z<|(Zx _ _ _ hE hb32 Qb).mono ?_
        rintro e_ w34 ⟨va,rfl,hRa,hOa,hb⟩;refine cR ?_;replace hcw:=hcw.then_below hb;replace h:=h.bel hb;replace hT:=hT.bel hb;replace hB3:=hB3.bel hb;replace hE:=hE.bel hb;replace hB9:=hB9.bel hb;replace hRs:=hRs.bel hb;have zz34:=hb.size;clear hb
        refine gY Z Z Z<|sm Z Z<|gY Z Z Z<|sc _ fz40 Z Qo Z Z (Q3 (JN va us _ _ _ hRa.reads hb32 Qb hRs) fun w35 hb=>?_)
        replace hcw:=hcw.then_below hb;replace h:=h.bel hb;replace hT:=hT.bel hb;replace hB3:=hB3.bel hb;replace hE:=hE.bel hb;replace hB9:=hB9.bel hb;replace hRs:=hRs.bel hb;replace hRa:=hRa.bel hb;have zz35:=hb.size;clear hb
        refine gY Z Z Z<|st (Qm Z Z) Z<|gY Z Z Z<|st (Qq Z Z) Z<|st (Qm Z Z) Z<|sa Z Z<|Wn<|tN<|Qg<|bR<|tR ?_
        rw [hp1 (Classical.not_not.1 h122),decide_eq_true rfl];rw [hp2] at h;exact (rT Z Z (h.done (hG.save m (Q5 hpS) Qb) hcw)).1
      ·replace h107:=Qs h107;obtain ⟨hpe,hp0,hp2⟩:=Qbj (D:=D) (m:=m) h107
       refine Qf<|tN<|Qa<|sm Z Z<|sm Z Z<|st (QL Z Z) Z<|UP Z (decide_eq_true hpe) Z<|gY Z Z Z<|sm Z Z<|gY Z Z Z<|st (QC Z Z) Z<|gY Z Z Z<|UP Z (decide_eq_true h107) Z<|gY Z Z Z<|st (QE Z hB9 uz101 Z siz101) Z<|gY Z Z Z<|sc _ fz67 Z Qo Z Z (Q3 (Yo _ _ _ hE) fun w36 hb=>?_)
       replace hcw:=hcw.then_below hb;replace h:=h.bel hb;replace hT:=hT.bel hb;replace hB3:=hB3.bel hb;replace hE:=hE.bel hb;replace hB9:=hB9.bel hb;replace hRs:=hRs.bel hb;have zz36:=hb.size;clear hb
       refine gY Z Z Z<|st (QL Z Z) Z<|gY Z Z Z<|st (Qm Z Z) Z<|gY Z Z Z<|UP Z (decide_eq_true (by first|(rw [hp0 h122]; rfl)|(rw [hp0]; rfl))) Z ?_
       refine gN Z Z Z Z<|gN Z Z Z Z<|gN Z Z Z Z<|gU Z Z Z Z<|gU Z Z Z Z<|gU Z Z Z Z<|gU Z Z Z Z<|gN Z Z Z Z<|gY Z Z Z<|st (Qm Z Z) Z<|st (Qm Z Z) Z<|sa Z Z<|Wn<|tN<|Qg<|bR<|tR ?_
       rw [hp2] at h;exact (rT Z Z (h.done hG.mono hcw)).1
     ·refine Jm inf39 Z (fun g11 w37 hB11 hg11 hb hl11=>?_);replace hcw:=hcw.then_below hb;replace h:=h.add hb [g11] (fun g_ hg_=>by rw [List.mem_singleton.1 hg_]; exact ⟨hg11,hl11⟩);have hoB11:=(h.mem (g:=g11) Q0).1;replace hT:=hT.bel hb;replace hB3:=hB3.bel hb;replace hE:=hE.bel hb;replace hB9:=hB9.bel hb;have zz37:=hb.size;clear hb
      refine Wn<|hQ_ _ _ (⟨h.blk,hB3⟩) ?_
      clear hQ_ hP_ Q_
      refine uP<|uA Z (fun Q_ hQ_ hP_=>?_) u0
      obtain ⟨R,hr,_⟩:=h.rdsk
      refine sc _ fz51 Z Qo Z Z<|(YO _ _ _ m _ hr.at_ hok hbud).mono ?_
      rintro e_ w38 ⟨uf,rfl,hF,hOu,hb⟩;refine cR ?_;replace hcw:=hcw.then_below hb;replace h:=h.bel hb;replace hT:=hT.bel hb;replace hB3:=hB3.bel hb;replace hE:=hE.bel hb;replace hB9:=hB9.bel hb;replace hB11:=hB11.bel hb;have zz38:=hb.size;clear hb
      refine Wn<|hQ_ _ _ (⟨h.blk,hB3⟩) ?_
      clear hQ_ hP_ Q_
      have huf:0<(QB D m).1.l.length→∀ k,uf.ownBlock=some k→k<(w38).heap.size:=fun h1 k hk=>Reads.ownLt hF h1 hk
      have huc:uf.oneCell'=true:=by obtain ⟨a_,c_,rfl,_⟩:=hF.shape; rfl
      refine uY Z (fun G U=>(Qd Z)) Z<|uY Z (fun G U=>(Qu Z Z)) Z<|uY Z (fun G U=>(Qu Z Z)) Z<|uP<|uA Z (fun Q_ hQ_ hP_=>?_) u0
      refine QY Z Z hB11 siz39 Z (by show (uf.oneCell' && _)=true; rw [huc]; rfl) (fun w39 bB cC=>?_)
      have hu7:0<(QB D m).1.l.length→∀ k,uf.ownBlock=some k→k≠g11:=by first|(intro h1 k hk e; have:=hOu k hk; omega)|(intro h1 k hk e; have:=huf h1 k hk; omega)
      replace hF:REnts w39 _ _:=Reads.chgS hF cC (fun h1 k hk e=>hu7 h1 k hk e);replace hE:EntsAt w39 _ _:=Reads.chgS hE cC (fun h1 k hk e=>by have h2:k=g11:=e; have:=hul h1 k hk; omega);replace hB11:=bB;replace h:=h.loc Q0 cC;replace hT:=hT.chg cC (fun k hk=>by have h1:k=g11:=hk; omega);replace hB3:=hB3.chg cC (by show ¬g3=g11; omega);replace hB9:=hB9.chg cC (by show ¬g9=g11; omega);replace hcw:=hcw.next cC (fun i hi=>.inl (by have h1:i=g11:=hi; show B≤i; omega));have zz39:=cC.size;clear bB cC
      refine Wn<|hQ_ _ _ (⟨h.blk,hB3⟩) ?_
      clear hQ_ hP_ Q_
      refine uY Z (fun G U=>(Qy Z)) Z<|uN<|nN<|Qa<|st (Qk KH Z) Z<|st (Qi Z hB11 uz35 Z Z) Z<|sc _ fz43 Z Qo Z Z<|(KK uf (QB D m).1.l _ hF Qb).mono ?_
      rintro e_ w40 ⟨us,rfl,hRs,hOs,hb⟩;refine cR ?_;replace h:=h.add hb us.ownBlock.toList (fun k hk=>hOs k (Option.mem_toList.1 hk));replace hT:=hT.bel hb;replace hB3:=hB3.bel hb;replace hB9:=hB9.bel hb;replace hE:=hE.bel hb;replace hcw:=hcw.then_below hb;have zz40:=hb.size;clear hb hF hB11
      refine sa Z Z<|Wn<|tN<|Qe<|Qa<|sm Z Z<|st (QL Z Z) Z<|Wn<|tN<|Qx Z (fun h107=>?_) (fun h107=>?_)
      ·replace h107:=Qs h107;obtain ⟨hpe,hp0,hp1,hp2⟩:=Qgr (D:=D) (m:=m) h107;refine Qan (fun G=>Blk G gs 41 (ZW gd gr pw pp is n uL cl fL fg fw pn po)∧Blk G g3 44 #[.int .i64 ask,.int .i64 m,.int .i64 at_,Qv d,.slice pa pl pc]) [0,1,2,3,4,5,6,7,8] [Y,Y,Y,Y,Y,Y,Y,false,Y] Qo Qo (⟨h.blk.drew,hB3.drew⟩) ?_;obtain ⟨w41,hw_,hb⟩:=QN w40;rw [← hw_];clear hw_;have hS:=hb;replace hcw:=hcw.then_below hb;replace h:=h.bel hb;replace hT:=hT.bel hb;replace hB3:=hB3.bel hb;replace hE:=hE.bel hb;replace hB9:=hB9.bel hb;replace hRs:=hRs.bel hb;have zz41:=hb.size;clear hb
       refine oY Z (fun G U=>(Qd Z)) Z<|oY Z (fun G U=>(Qc Z)) Z<|oY Z (fun G U=>(Qk ZO Z)) Z<|oY Z (fun G U=>(Qi Z U.1 uz27 Z Z)) Z<|oY Z (fun G U=>(Qk J4 Z)) Z<|oY Z (fun G U=>(Qi Z U.2 uz3 Z Z)) Z<|oY Z (fun G U=>(Qd Z)) Z<|oL Z (fun Q_ hQ_ hP_=>(sc _ fz63 Z Qo Z Z ((Qbq h hT hcw (70000*c) m us _ hG.good Qb Qb hG.q hRs (Q5 hpS) (Yk _) (fun k hk=>by simp [hk]) Qb).mono ?_)))
       rintro e_ w42 ⟨rfl,h1,hT,hcw,zz42,hX⟩;refine cR ?_;replace hB3:=hB3.chg hX (fun e=>e.2.1 Q0);replace hB9:=hB9.chg hX (fun e=>e.2.1 Q0);replace hE:EntsAt w42 _ _:=Reads.chgS hE hX (fun h0 k hk e=>e.2.1 (by simp [hO h0 k hk]));replace hRs:REnts w42 _ _:=Reads.chgS hRs hX (fun h0 k hk e=>e.2.1 (by simp [hk]));clear hX h;have h:=h1;clear h1
       refine Wn<|hQ_ _ _ (⟨h.blk,hB3⟩) ?_
       clear hQ_ hP_ Q_
       refine oY Z (fun G U=>(Qy Z)) Z<|oN<|nN<|tN<|Qa<|sm Z Z<|sm Z Z<|st (QL Z Z) Z<|UP Z (decide_eq_true hpe) Z<|gY Z Z Z<|sm Z Z<|gY Z Z Z<|st (QC Z Z) Z<|gY Z Z Z<|sb Z Z (fun h122=>?_) (fun h122=>?_)
       ·replace h122:=Qs h122
        refine gY Z Z Z<|st (QE Z hB9 uz101 Z siz101) Z<|gY Z Z Z<|sc _ fz67 Z Qo Z Z (Q3 (Yo _ _ _ hE) fun w43 hb=>?_)
        replace hcw:=hcw.then_below hb;replace h:=h.bel hb;replace hT:=hT.bel hb;replace hB3:=hB3.bel hb;replace hE:=hE.bel hb;replace hB9:=hB9.bel hb;replace hRs:=hRs.bel hb;have zz43:=hb.size;clear hb
        refine gY Z Z Z<|st (QL Z Z) Z<|gY Z Z Z<|st (Qm Z Z) Z<|gY Z Z Z<|UP Z (decide_eq_true (by first|(rw [hp0 h122]; rfl)|(rw [hp0]; rfl))) Z ?_
        refine gN Z Z Z Z<|gN Z Z Z Z<|gN Z Z Z Z<|gU Z Z Z Z<|gU Z Z Z Z<|gU Z Z Z Z<|gU Z Z Z Z<|gN Z Z Z Z<|gY Z Z Z<|st (Qm Z Z) Z<|st (Qm Z Z) Z<|sa Z Z<|Wn<|tN<|Qg<|bR<|tR ?_
        rw [hp2] at h;exact (rT Z Z (h.done (hG.save m (Q5 hpS) Qb) hcw)).1
       ·replace h122:=Qs h122
        refine gN Z Z Z Z<|gN Z Z Z Z<|gN Z Z Z Z<|gY Z Z Z<|st (Qq Z Z) Z<|gY Z Z Z<|sm Z Z<|gY Z Z Z<|sm Z Z<|gY Z Z Z<|st (QL Z Z) Z<|gY Z Z Z<|UP Z (decide_eq_true (Classical.not_not.1 h122)) Z<|gY Z Z Z<|st (QE Z hB9 uz101 Z siz101) Z<|gY Z Z Z<|sc _ fz42 Z Qo Z Z<|(Zx _ _ _ hE hb32 Qb).mono ?_
        rintro e_ w44 ⟨va,rfl,hRa,hOa,hb⟩;refine cR ?_;replace hcw:=hcw.then_below hb;replace h:=h.bel hb;replace hT:=hT.bel hb;replace hB3:=hB3.bel hb;replace hE:=hE.bel hb;replace hB9:=hB9.bel hb;replace hRs:=hRs.bel hb;have zz44:=hb.size;clear hb
        refine gY Z Z Z<|sm Z Z<|gY Z Z Z<|sc _ fz40 Z Qo Z Z (Q3 (JN va us _ _ _ hRa.reads hb32 Qb hRs) fun w45 hb=>?_)
        replace hcw:=hcw.then_below hb;replace h:=h.bel hb;replace hT:=hT.bel hb;replace hB3:=hB3.bel hb;replace hE:=hE.bel hb;replace hB9:=hB9.bel hb;replace hRs:=hRs.bel hb;replace hRa:=hRa.bel hb;have zz45:=hb.size;clear hb
        refine gY Z Z Z<|st (Qm Z Z) Z<|gY Z Z Z<|st (Qq Z Z) Z<|st (Qm Z Z) Z<|sa Z Z<|Wn<|tN<|Qg<|bR<|tR ?_
        rw [hp1 (Classical.not_not.1 h122),decide_eq_true rfl];rw [hp2] at h;exact (rT Z Z (h.done (hG.save m (Q5 hpS) Qb) hcw)).1
      ·replace h107:=Qs h107;obtain ⟨hpe,hp0,hp2⟩:=Qbj (D:=D) (m:=m) h107
       refine Qf<|tN<|Qa<|sm Z Z<|sm Z Z<|st (QL Z Z) Z<|UP Z (decide_eq_true hpe) Z<|gY Z Z Z<|sm Z Z<|gY Z Z Z<|st (QC Z Z) Z<|gY Z Z Z<|UP Z (decide_eq_true h107) Z<|gY Z Z Z<|st (QE Z hB9 uz101 Z siz101) Z<|gY Z Z Z<|sc _ fz67 Z Qo Z Z (Q3 (Yo _ _ _ hE) fun w46 hb=>?_)
       replace hcw:=hcw.then_below hb;replace h:=h.bel hb;replace hT:=hT.bel hb;replace hB3:=hB3.bel hb;replace hE:=hE.bel hb;replace hB9:=hB9.bel hb;replace hRs:=hRs.bel hb;have zz46:=hb.size;clear hb
       refine gY Z Z Z<|st (QL Z Z) Z<|gY Z Z Z<|st (Qm Z Z) Z<|gY Z Z Z<|UP Z (decide_eq_true (by first|(rw [hp0 h122]; rfl)|(rw [hp0]; rfl))) Z ?_
       refine gN Z Z Z Z<|gN Z Z Z Z<|gN Z Z Z Z<|gU Z Z Z Z<|gU Z Z Z Z<|gU Z Z Z Z<|gU Z Z Z Z<|gN Z Z Z Z<|gY Z Z Z<|st (Qm Z Z) Z<|st (Qm Z Z) Z<|sa Z Z<|Wn<|tN<|Qg<|bR<|tR ?_
       rw [hp2] at h;exact (rT Z Z (h.done hG.mono hcw)).1
    ·refine Jm inf101 Z (fun g9 w47 hB9 hg9 hb hl9=>?_);replace hcw:=hcw.then_below hb;replace h:=h.add hb [g9] (fun g_ hg_=>by rw [List.mem_singleton.1 hg_]; exact ⟨hg9,hl9⟩);have hoB9:=(h.mem (g:=g9) Q0).1;replace hT:=hT.bel hb;replace hB3:=hB3.bel hb;have zz47:=hb.size;clear hb
     refine Wn<|hQ_ _ _ (⟨h.blk,hB3⟩) ?_
     clear hQ_ hP_ Q_
     refine uP<|uA Z (fun Q_ hQ_ hP_=>?_) u0
     refine sc _ Tryz.func66 Z Qo Z Z<|(Qjc h hT hcw (70000*c) m hG.good Qb Qb).mono ?_
     rintro e_ w48 ⟨u,lu,rfl,hE,hO,h1,hT,hcw,zz48,hX⟩;refine cR ?_
     first|replace hB3:=hB3.chg hX (fun e=>e.2.1 Q0)|skip
     first|replace hB9:=hB9.chg hX (fun e=>e.2.1 Q0)|skip
     obtain ⟨am,cm,rfl⟩:∃ am cm,u=.slice am (Q8 D m).1.1.length cm:=by obtain ⟨_,am,cm,e,_⟩:=hE; exact ⟨am,cm,e⟩
     have hul:0<(Q8 D m).1.1.length→∀ k,(Value.slice am (Q8 D m).1.1.length cm).ownBlock=some k→k<(w48).heap.size:=fun h0 k hk=>Reads.ownLt hE h0 hk
     clear hX h;have h:=h1;clear h1
     refine Wn<|hQ_ _ _ (⟨h.blk,hB3⟩) ?_
     clear hQ_ hP_ Q_
     refine uY Z (fun G U=>(Qd Z)) Z<|uY Z (fun G U=>(Qu Z Z)) Z<|uY Z (fun G U=>(Qu Z Z)) Z<|uP<|uA Z (fun Q_ hQ_ hP_=>?_) u0
     refine QY Z Z hB9 siz101 Z (by simp [Value.oneCell']) (fun w49 bB cC=>?_);replace hE:=EntsAt.chgI hE hb32 hB9 cC;replace hB9:=bB;replace h:=h.loc Q0 cC;replace hT:=hT.chg cC (fun k hk=>by have h1:k=g9:=hk; omega);replace hB3:=hB3.chg cC (by show ¬g3=g9; omega);replace hcw:=hcw.next cC (fun i hi=>.inl (by have h1:i=g9:=hi; show B≤i; omega));have zz49:=cC.size;clear bB cC
     refine Wn<|hQ_ _ _ (⟨h.blk,hB3⟩) ?_
     clear hQ_ hP_ Q_
     refine uY Z (fun G U=>(Qy Z)) Z<|uN<|nN<|Y8 (fun G=>Blk G gs 41 (ZW gd gr pw pp is n uL cl fL fg fw pn po)∧Blk G g3 44 #[.int .i64 ask,.int .i64 m,.int .i64 at_,Qv d,.slice pa pl pc]) (.yes 0 (.yes 1 (.yes 2 (.yes 3 (.yes 4 (.yes 5 (.pick (.alt 6 (.yes 7 (.yes 8 (.yes 9 (.pick (.alt 10 (.pick (.alt 11 (.yes 12 (.nil)) (.no))) (.no)))))) (.alt 10 (.pick (.alt 6 (.yes 7 (.yes 8 (.yes 9 (.pick (.alt 11 (.yes 12 (.nil)) (.no)))))) (.no))) (.no)))))))))) Qo Qo (⟨h.blk.drew,hB3.drew⟩) ?_
     obtain ⟨w50,hw_,hb⟩:=QN w49;rw [← hw_];clear hw_;have hS:=hb;replace hcw:=hcw.then_below hb;replace h:=h.bel hb;replace hT:=hT.bel hb;replace hB3:=hB3.bel hb;replace hB9:=hB9.bel hb;replace hE:=hE.bel hb;have zz50:=hb.size;clear hb
     refine uY Z (fun G U=>(Qd Z)) Z<|uY Z (fun G U=>(Qc Z)) Z<|uY Z (fun G U=>(Qk ZO Z)) Z<|uY Z (fun G U=>(Qi Z U.1 uz27 Z Z)) Z<|uY Z (fun G U=>(Qk J4 Z)) Z<|uY Z (fun G U=>(Qi Z U.2 uz3 Z Z)) Z<|uP<|uA Z (fun Q_ hQ_ hP_=>?_)<|uA Z (fun Q_ hQ_ hP_=>?_) u0
     ·obtain ⟨R,hr,_⟩:=h.rdsk
      refine sc _ fz51 Z Qo Z Z<|(YO _ _ _ m _ hr.at_ hok hbud).mono ?_
      rintro e_ w51 ⟨uf,rfl,hF,hOu,hb⟩;refine cR ?_;replace hcw:=hcw.then_below hb;replace h:=h.bel hb;replace hT:=hT.bel hb;replace hB3:=hB3.bel hb;replace hB9:=hB9.bel hb;replace hE:=hE.bel hb;have zz51:=hb.size;clear hb
      refine Wn<|hQ_ _ _ (⟨h.blk,hB3⟩) ?_
      clear hQ_ hP_ Q_
      have huf:0<(QB D m).1.l.length→∀ k,uf.ownBlock=some k→k<(w51).heap.size:=fun h1 k hk=>Reads.ownLt hF h1 hk
      have huc:uf.oneCell'=true:=by obtain ⟨a_,c_,rfl,_⟩:=hF.shape; rfl
      refine uY Z (fun G U=>(Qd Z)) Z<|uY Z (fun G U=>(Qu Z Z)) Z<|uY Z (fun G U=>(Qu Z Z)) Z<|uP<|uA Z (fun Q_ hQ_ hP_=>?_) u0
      refine Jm inf39 Z (fun g11 w52 hB11 hg11 hb hl11=>?_);replace hcw:=hcw.then_below hb;replace h:=h.add hb [g11] (fun g_ hg_=>by rw [List.mem_singleton.1 hg_]; exact ⟨hg11,hl11⟩);have hoB11:=(h.mem (g:=g11) Q0).1;replace hT:=hT.bel hb;replace hB3:=hB3.bel hb;replace hB9:=hB9.bel hb;replace hE:=hE.bel hb;replace hF:=hF.bel hb;have zz52:=hb.size;clear hb
      refine Wn<|hQ_ _ _ (⟨h.blk,hB3⟩) ?_
      clear hQ_ hP_ Q_
      refine uP<|uA Z (fun Q_ hQ_ hP_=>?_) u0
      refine QY Z Z hB11 siz39 Z (by show (uf.oneCell' && _)=true; rw [huc]; rfl) (fun w53 bB cC=>?_)
      have hu7:0<(QB D m).1.l.length→∀ k,uf.ownBlock=some k→k≠g11:=by first|(intro h1 k hk e; have:=hOu k hk; omega)|(intro h1 k hk e; have:=huf h1 k hk; omega)
      replace hF:REnts w53 _ _:=Reads.chgS hF cC (fun h1 k hk e=>hu7 h1 k hk e);replace hE:EntsAt w53 _ _:=Reads.chgS hE cC (fun h1 k hk e=>by have h2:k=g11:=e; have:=hul h1 k hk; omega);replace hB11:=bB;replace h:=h.loc Q0 cC;replace hT:=hT.chg cC (fun k hk=>by have h1:k=g11:=hk; omega);replace hB3:=hB3.chg cC (by show ¬g3=g11; omega);replace hB9:=hB9.chg cC (by show ¬g9=g11; omega);replace hcw:=hcw.next cC (fun i hi=>.inl (by have h1:i=g11:=hi; show B≤i; omega));have zz53:=cC.size;clear bB cC
      refine Wn<|hQ_ _ _ (⟨h.blk,hB3⟩) ?_
      clear hQ_ hP_ Q_
      refine uY Z (fun G U=>(Qy Z)) Z<|uN<|nN<|Qa<|st (Qk KH Z) Z<|st (Qi Z hB11 uz35 Z Z) Z<|sc _ fz43 Z Qo Z Z<|(KK uf (QB D m).1.l _ hF Qb).mono ?_
      rintro e_ w54 ⟨us,rfl,hRs,hOs,hb⟩;refine cR ?_;replace h:=h.add hb us.ownBlock.toList (fun k hk=>hOs k (Option.mem_toList.1 hk));replace hT:=hT.bel hb;replace hB3:=hB3.bel hb;replace hB9:=hB9.bel hb;replace hE:=hE.bel hb;replace hcw:=hcw.then_below hb;have zz54:=hb.size;clear hb hF hB11
      refine sa Z Z<|Wn<|tN<|Qe<|Qa<|sm Z Z<|st (QL Z Z) Z<|Wn<|tN<|Qx Z (fun h107=>?_) (fun h107=>?_)
      ·replace h107:=Qs h107;obtain ⟨hpe,hp0,hp1,hp2⟩:=Qgr (D:=D) (m:=m) h107;refine Qan (fun G=>Blk G gs 41 (ZW gd gr pw pp is n uL cl fL fg fw pn po)∧Blk G g3 44 #[.int .i64 ask,.int .i64 m,.int .i64 at_,Qv d,.slice pa pl pc]) [0,1,2,3,4,5,6,7,8] [Y,Y,Y,Y,Y,Y,Y,false,Y] Qo Qo (⟨h.blk.drew,hB3.drew⟩) ?_;obtain ⟨w55,hw_,hb⟩:=QN w54;rw [← hw_];clear hw_;have hS:=hb;replace hcw:=hcw.then_below hb;replace h:=h.bel hb;replace hT:=hT.bel hb;replace hB3:=hB3.bel hb;replace hB9:=hB9.bel hb;replace hE:=hE.bel hb;replace hRs:=hRs.bel hb;have zz55:=hb.size;clear hb
       refine oY Z (fun G U=>(Qd Z)) Z<|oY Z (fun G U=>(Qc Z)) Z<|oY Z (fun G U=>(Qk ZO Z)) Z<|oY Z (fun G U=>(Qi Z U.1 uz27 Z Z)) Z<|oY Z (fun G U=>(Qk J4 Z)) Z<|oY Z (fun G U=>(Qi Z U.2 uz3 Z Z)) Z<|oY Z (fun G U=>(Qd Z)) Z<|oL Z (fun Q_ hQ_ hP_=>(sc _ fz63 Z Qo Z Z ((Qbq h hT hcw (70000*c) m us _ hG.good Qb Qb hG.q hRs (Q5 hpS) (Yk _) (fun k hk=>by simp [hk]) Qb).mono ?_)))
       rintro e_ w56 ⟨rfl,h1,hT,hcw,zz56,hX⟩;refine cR ?_;replace hB3:=hB3.chg hX (fun e=>e.2.1 Q0);replace hB9:=hB9.chg hX (fun e=>e.2.1 Q0);replace hE:EntsAt w56 _ _:=Reads.chgS hE hX (fun h0 k hk e=>e.2.1 (by simp [hO h0 k hk]));replace hRs:REnts w56 _ _:=Reads.chgS hRs hX (fun h0 k hk e=>e.2.1 (by simp [hk]));clear hX h;have h:=h1;clear h1
       refine Wn<|hQ_ _ _ (⟨h.blk,hB3⟩) ?_
       clear hQ_ hP_ Q_
       refine oY Z (fun G U=>(Qy Z)) Z<|oN<|nN<|tN<|Qa<|sm Z Z<|sm Z Z<|st (QL Z Z) Z<|UP Z (decide_eq_true hpe) Z<|gY Z Z Z<|sm Z Z<|gY Z Z Z<|st (QC Z Z) Z<|gY Z Z Z<|sb Z Z (fun h122=>?_) (fun h122=>?_)
       ·replace h122:=Qs h122
        refine gY Z Z Z<|st (QE Z hB9 uz101 Z siz101) Z<|gY Z Z Z<|sc _ fz67 Z Qo Z Z (Q3 (Yo _ _ _ hE) fun w57 hb=>?_)
        replace hcw:=hcw.then_below hb;replace h:=h.bel hb;replace hT:=hT.bel hb;replace hB3:=hB3.bel hb;replace hB9:=hB9.bel hb;replace hE:=hE.bel hb;replace hRs:=hRs.bel hb;have zz57:=hb.size;clear hb
        refine gY Z Z Z<|st (QL Z Z) Z<|gY Z Z Z<|st (Qm Z Z) Z<|gY Z Z Z<|UP Z (decide_eq_true (by first|(rw [hp0 h122]; rfl)|(rw [hp0]; rfl))) Z ?_
        refine gN Z Z Z Z<|gN Z Z Z Z<|gN Z Z Z Z<|gU Z Z Z Z<|gU Z Z Z Z<|gU Z Z Z Z<|gU Z Z Z Z<|gN Z Z Z Z<|gY Z Z Z<|st (Qm Z Z) Z<|st (Qm Z Z) Z<|sa Z Z<|Wn<|tN<|Qg<|bR<|tR ?_
        rw [hp2] at h;exact (rT Z Z (h.done (hG.save m (Q5 hpS) Qb) hcw)).1
       ·replace h122:=Qs h122
        refine gN Z Z Z Z<|gN Z Z Z Z<|gN Z Z Z Z<|gY Z Z Z<|st (Qq Z Z) Z<|gY Z Z Z<|sm Z Z<|gY Z Z Z<|sm Z Z<|gY Z Z Z<|st (QL Z Z) Z<|gY Z Z Z<|UP Z (decide_eq_true (Classical.not_not.1 h122)) Z<|gY Z Z Z<|st (QE Z hB9 uz101 Z siz101) Z<|gY Z Z Z<|sc _ fz42 Z Qo Z Z<|(Zx _ _ _ hE hb32 Qb).mono ?_
        rintro e_ w58 ⟨va,rfl,hRa,hOa,hb⟩;refine cR ?_;replace hcw:=hcw.then_below hb;replace h:=h.bel hb;replace hT:=hT.bel hb;replace hB3:=hB3.bel hb;replace hB9:=hB9.bel hb;replace hE:=hE.bel hb;replace hRs:=hRs.bel hb;have zz58:=hb.size;clear hb
        refine gY Z Z Z<|sm Z Z<|gY Z Z Z<|sc _ fz40 Z Qo Z Z (Q3 (JN va us _ _ _ hRa.reads hb32 Qb hRs) fun w59 hb=>?_)
        replace hcw:=hcw.then_below hb;replace h:=h.bel hb;replace hT:=hT.bel hb;replace hB3:=hB3.bel hb;replace hB9:=hB9.bel hb;replace hE:=hE.bel hb;replace hRs:=hRs.bel hb;replace hRa:=hRa.bel hb;have zz59:=hb.size;clear hb
        refine gY Z Z Z<|st (Qm Z Z) Z<|gY Z Z Z<|st (Qq Z Z) Z<|st (Qm Z Z) Z<|sa Z Z<|Wn<|tN<|Qg<|bR<|tR ?_
        rw [hp1 (Classical.not_not.1 h122),decide_eq_true rfl];rw [hp2] at h;exact (rT Z Z (h.done (hG.save m (Q5 hpS) Qb) hcw)).1
      ·replace h107:=Qs h107;obtain ⟨hpe,hp0,hp2⟩:=Qbj (D:=D) (m:=m) h107
       refine Qf<|tN<|Qa<|sm Z Z<|sm Z Z<|st (QL Z Z) Z<|UP Z (decide_eq_true hpe) Z<|gY Z Z Z<|sm Z Z<|gY Z Z Z<|st (QC Z Z) Z<|gY Z Z Z<|UP Z (decide_eq_true h107) Z<|gY Z Z Z<|st (QE Z hB9 uz101 Z siz101) Z<|gY Z Z Z<|sc _ fz67 Z Qo Z Z (Q3 (Yo _ _ _ hE) fun w60 hb=>?_)
       replace hcw:=hcw.then_below hb;replace h:=h.bel hb;replace hT:=hT.bel hb;replace hB3:=hB3.bel hb;replace hB9:=hB9.bel hb;replace hE:=hE.bel hb;replace hRs:=hRs.bel hb;have zz60:=hb.size;clear hb
       refine gY Z Z Z<|st (QL Z Z) Z<|gY Z Z Z<|st (Qm Z Z) Z<|gY Z Z Z<|UP Z (decide_eq_true (by first|(rw [hp0 h122]; rfl)|(rw [hp0]; rfl))) Z ?_
       refine gN Z Z Z Z<|gN Z Z Z Z<|gN Z Z Z Z<|gU Z Z Z Z<|gU Z Z Z Z<|gU Z Z Z Z<|gU Z Z Z Z<|gN Z Z Z Z<|gY Z Z Z<|st (Qm Z Z) Z<|st (Qm Z Z) Z<|sa Z Z<|Wn<|tN<|Qg<|bR<|tR ?_
       rw [hp2] at h;exact (rT Z Z (h.done hG.mono hcw)).1
     ·refine Jm inf39 Z (fun g11 w61 hB11 hg11 hb hl11=>?_);replace hcw:=hcw.then_below hb;replace h:=h.add hb [g11] (fun g_ hg_=>by rw [List.mem_singleton.1 hg_]; exact ⟨hg11,hl11⟩);have hoB11:=(h.mem (g:=g11) Q0).1;replace hT:=hT.bel hb;replace hB3:=hB3.bel hb;replace hB9:=hB9.bel hb;replace hE:=hE.bel hb;have zz61:=hb.size;clear hb
      refine Wn<|hQ_ _ _ (⟨h.blk,hB3⟩) ?_
      clear hQ_ hP_ Q_
      refine uP<|uA Z (fun Q_ hQ_ hP_=>?_) u0
      obtain ⟨R,hr,_⟩:=h.rdsk
      refine sc _ fz51 Z Qo Z Z<|(YO _ _ _ m _ hr.at_ hok hbud).mono ?_
      rintro e_ w62 ⟨uf,rfl,hF,hOu,hb⟩;refine cR ?_;replace hcw:=hcw.then_below hb;replace h:=h.bel hb;replace hT:=hT.bel hb;replace hB3:=hB3.bel hb;replace hB9:=hB9.bel hb;replace hE:=hE.bel hb;replace hB11:=hB11.bel hb;have zz62:=hb.size;clear hb
      refine Wn<|hQ_ _ _ (⟨h.blk,hB3⟩) ?_
      clear hQ_ hP_ Q_
      have huf:0<(QB D m).1.l.length→∀ k,uf.ownBlock=some k→k<(w62).heap.size:=fun h1 k hk=>Reads.ownLt hF h1 hk
      have huc:uf.oneCell'=true:=by obtain ⟨a_,c_,rfl,_⟩:=hF.shape; rfl
      refine uY Z (fun G U=>(Qd Z)) Z<|uY Z (fun G U=>(Qu Z Z)) Z<|uY Z (fun G U=>(Qu Z Z)) Z<|uP<|uA Z (fun Q_ hQ_ hP_=>?_) u0
      refine QY Z Z hB11 siz39 Z (by show (uf.oneCell' && _)=true; rw [huc]; rfl) (fun w63 bB cC=>?_)
      have hu7:0<(QB D m).1.l.length→∀ k,uf.ownBlock=some k→k≠g11:=by first|(intro h1 k hk e; have:=hOu k hk; omega)|(intro h1 k hk e; have:=huf h1 k hk; omega)
      replace hF:REnts w63 _ _:=Reads.chgS hF cC (fun h1 k hk e=>hu7 h1 k hk e);replace hE:EntsAt w63 _ _:=Reads.chgS hE cC (fun h1 k hk e=>by have h2:k=g11:=e; have:=hul h1 k hk; omega);replace hB11:=bB;replace h:=h.loc Q0 cC;replace hT:=hT.chg cC (fun k hk=>by have h1:k=g11:=hk; omega);replace hB3:=hB3.chg cC (by show ¬g3=g11; omega);replace hB9:=hB9.chg cC (by show ¬g9=g11; omega);replace hcw:=hcw.next cC (fun i hi=>.inl (by have h1:i=g11:=hi; show B≤i; omega));have zz63:=cC.size;clear bB cC
      refine Wn<|hQ_ _ _ (⟨h.blk,hB3⟩) ?_
      clear hQ_ hP_ Q_
      refine uY Z (fun G U=>(Qy Z)) Z<|uN<|nN<|Qa<|st (Qk KH Z) Z<|st (Qi Z hB11 uz35 Z Z) Z<|sc _ fz43 Z Qo Z Z<|(KK uf (QB D m).1.l _ hF Qb).mono ?_
      rintro e_ U8 ⟨us,rfl,hRs,hOs,hb⟩;refine cR ?_;replace h:=h.add hb us.ownBlock.toList (fun k hk=>hOs k (Option.mem_toList.1 hk));replace hT:=hT.bel hb;replace hB3:=hB3.bel hb;replace hB9:=hB9.bel hb;replace hE:=hE.bel hb;replace hcw:=hcw.then_below hb;have zz64:=hb.size;clear hb hF hB11
      refine sa Z Z<|Wn<|tN<|Qe<|Qa<|sm Z Z<|st (QL Z Z) Z<|Wn<|tN<|Qx Z (fun h107=>?_) (fun h107=>?_)
      ·replace h107:=Qs h107;obtain ⟨hpe,hp0,hp1,hp2⟩:=Qgr (D:=D) (m:=m) h107;refine Qan (fun G=>Blk G gs 41 (ZW gd gr pw pp is n uL cl fL fg fw pn po)∧Blk G g3 44 #[.int .i64 ask,.int .i64 m,.int .i64 at_,Qv d,.slice pa pl pc]) [0,1,2,3,4,5,6,7,8] [Y,Y,Y,Y,Y,Y,Y,false,Y] Qo Qo (⟨h.blk.drew,hB3.drew⟩) ?_;obtain ⟨w65,hw_,hb⟩:=QN U8;rw [← hw_];clear hw_;have hS:=hb;replace hcw:=hcw.then_below hb;replace h:=h.bel hb;replace hT:=hT.bel hb;replace hB3:=hB3.bel hb;replace hB9:=hB9.bel hb;replace hE:=hE.bel hb;replace hRs:=hRs.bel hb;have zz65:=hb.size;clear hb
       refine oY Z (fun G U=>(Qd Z)) Z<|oY Z (fun G U=>(Qc Z)) Z<|oY Z (fun G U=>(Qk ZO Z)) Z<|oY Z (fun G U=>(Qi Z U.1 uz27 Z Z)) Z<|oY Z (fun G U=>(Qk J4 Z)) Z<|oY Z (fun G U=>(Qi Z U.2 uz3 Z Z)) Z<|oY Z (fun G U=>(Qd Z)) Z<|oL Z (fun Q_ hQ_ hP_=>(sc _ fz63 Z Qo Z Z ((Qbq h hT hcw (70000*c) m us _ hG.good Qb Qb hG.q hRs (Q5 hpS) (Yk _) (fun k hk=>by simp [hk]) Qb).mono ?_)))
       rintro e_ w66 ⟨rfl,h1,hT,hcw,zz66,hX⟩;refine cR ?_;replace hB3:=hB3.chg hX (fun e=>e.2.1 Q0);replace hB9:=hB9.chg hX (fun e=>e.2.1 Q0);replace hE:EntsAt w66 _ _:=Reads.chgS hE hX (fun h0 k hk e=>e.2.1 (by simp [hO h0 k hk]));replace hRs:REnts w66 _ _:=Reads.chgS hRs hX (fun h0 k hk e=>e.2.1 (by simp [hk]));clear hX h;have h:=h1;clear h1
       refine Wn<|hQ_ _ _ (⟨h.blk,hB3⟩) ?_
       clear hQ_ hP_ Q_
       refine oY Z (fun G U=>(Qy Z)) Z<|oN<|nN<|tN<|Qa<|sm Z Z<|sm Z Z<|st (QL Z Z) Z<|UP Z (decide_eq_true hpe) Z<|gY Z Z Z<|sm Z Z<|gY Z Z Z<|st (QC Z Z) Z<|gY Z Z Z<|sb Z Z (fun h122=>?_) (fun h122=>?_)
       ·replace h122:=Qs h122
        refine gY Z Z Z<|st (QE Z hB9 uz101 Z siz101) Z<|gY Z Z Z<|sc _ fz67 Z Qo Z Z (Q3 (Yo _ _ _ hE) fun w67 hb=>?_)
        replace hcw:=hcw.then_below hb;replace h:=h.bel hb;replace hT:=hT.bel hb;replace hB3:=hB3.bel hb;replace hB9:=hB9.bel hb;replace hE:=hE.bel hb;replace hRs:=hRs.bel hb;have zz67:=hb.size;clear hb
        refine gY Z Z Z<|st (QL Z Z) Z<|gY Z Z Z<|st (Qm Z Z) Z<|gY Z Z Z<|UP Z (decide_eq_true (by first|(rw [hp0 h122]; rfl)|(rw [hp0]; rfl))) Z ?_
        refine gN Z Z Z Z<|gN Z Z Z Z<|gN Z Z Z Z<|gU Z Z Z Z<|gU Z Z Z Z<|gU Z Z Z Z<|gU Z Z Z Z<|gN Z Z Z Z<|gY Z Z Z<|st (Qm Z Z) Z<|st (Qm Z Z) Z<|sa Z Z<|Wn<|tN<|Qg<|bR<|tR ?_
        rw [hp2] at h;exact (rT Z Z (h.done (hG.save m (Q5 hpS) Qb) hcw)).1
       ·replace h122:=Qs h122
        refine gN Z Z Z Z<|gN Z Z Z Z<|gN Z Z Z Z<|gY Z Z Z<|st (Qq Z Z) Z<|gY Z Z Z<|sm Z Z<|gY Z Z Z<|sm Z Z<|gY Z Z Z<|st (QL Z Z) Z<|gY Z Z Z<|UP Z (decide_eq_true (Classical.not_not.1 h122)) Z<|gY Z Z Z<|st (QE Z hB9 uz101 Z siz101) Z<|gY Z Z Z<|sc _ fz42 Z Qo Z Z<|(Zx _ _ _ hE hb32 Qb).mono ?_
        rintro e_ w68 ⟨va,rfl,hRa,hOa,hb⟩;refine cR ?_;replace hcw:=hcw.then_below hb;replace h:=h.bel hb;replace hT:=hT.bel hb;replace hB3:=hB3.bel hb;replace hB9:=hB9.bel hb;replace hE:=hE.bel hb;replace hRs:=hRs.bel hb;have zz68:=hb.size;clear hb
        refine gY Z Z Z<|sm Z Z<|gY Z Z Z<|sc _ fz40 Z Qo Z Z (Q3 (JN va us _ _ _ hRa.reads hb32 Qb hRs) fun w69 hb=>?_)
        replace hcw:=hcw.then_below hb;replace h:=h.bel hb;replace hT:=hT.bel hb;replace hB3:=hB3.bel hb;replace hB9:=hB9.bel hb;replace hE:=hE.bel hb;replace hRs:=hRs.bel hb;replace hRa:=hRa.bel hb;have zz69:=hb.size;clear hb
        refine gY Z Z Z<|st (Qm Z Z) Z<|gY Z Z Z<|st (Qq Z Z) Z<|st (Qm Z Z) Z<|sa Z Z<|Wn<|tN<|Qg<|bR<|tR ?_
        rw [hp1 (Classical.not_not.1 h122),decide_eq_true rfl];rw [hp2] at h;exact (rT Z Z (h.done (hG.save m (Q5 hpS) Qb) hcw)).1
      ·replace h107:=Qs h107;obtain ⟨hpe,hp0,hp2⟩:=Qbj (D:=D) (m:=m) h107
       refine Qf<|tN<|Qa<|sm Z Z<|sm Z Z<|st (QL Z Z) Z<|UP Z (decide_eq_true hpe) Z<|gY Z Z Z<|sm Z Z<|gY Z Z Z<|st (QC Z Z) Z<|gY Z Z Z<|UP Z (decide_eq_true h107) Z<|gY Z Z Z<|st (QE Z hB9 uz101 Z siz101) Z<|gY Z Z Z<|sc _ fz67 Z Qo Z Z (Q3 (Yo _ _ _ hE) fun w70 hb=>?_)
       replace hcw:=hcw.then_below hb;replace h:=h.bel hb;replace hT:=hT.bel hb;replace hB3:=hB3.bel hb;replace hB9:=hB9.bel hb;replace hE:=hE.bel hb;replace hRs:=hRs.bel hb;have zz70:=hb.size;clear hb
       refine gY Z Z Z<|st (QL Z Z) Z<|gY Z Z Z<|st (Qm Z Z) Z<|gY Z Z Z<|UP Z (decide_eq_true (by first|(rw [hp0 h122]; rfl)|(rw [hp0]; rfl))) Z ?_
       refine gN Z Z Z Z<|gN Z Z Z Z<|gN Z Z Z Z<|gU Z Z Z Z<|gU Z Z Z Z<|gU Z Z Z Z<|gU Z Z Z Z<|gN Z Z Z Z<|gY Z Z Z<|st (Qm Z Z) Z<|st (Qm Z Z) Z<|sa Z Z<|Wn<|tN<|Qg<|bR<|tR ?_
       rw [hp2] at h;exact (rT Z Z (h.done hG.mono hcw)).1
   ·replace h81:=Qs h81
    refine Qf<|bN<|tN<|QS (fun G=>Blk G gs 41 (ZW gd gr pw pp is n uL cl fL fg fw pn po)∧Blk G g3 44 #[.int .i64 ask,.int .i64 m,.int .i64 at_,Qv d,.slice pa pl pc]) [0,1,2,3,4,5,8,9,10,11,12,13,6,7,14,15,16,17] [Y,Y,Y,Y,Y,Y,Y,Y,Y,Y,Y,Y,false,false,false,false,Y,Y] Qo Qo (⟨h.blk.drew,hB3.drew⟩) ?_
    obtain ⟨w71,hw_,hb⟩:=QN w1;rw [← hw_];clear hw_;have hS:=hb;replace hcw:=hcw.then_below hb;replace h:=h.bel hb;replace hT:=hT.bel hb;replace hB3:=hB3.bel hb;have zz71:=hb.size;clear hb
    refine oY Z (fun G U=>(Qd Z)) Z<|oY Z (fun G U=>(Qc Z)) Z<|oY Z (fun G U=>(Qk XC Z)) Z<|oY Z (fun G U=>(Qi Z U.1 uz23 Z Z)) Z<|oY Z (fun G U=>(Qk J4 Z)) Z<|oY Z (fun G U=>(Qi Z U.2 uz3 Z Z)) Z<|oY Z (fun G U=>(Qd Z)) Z<|oY Z (fun G U=>(Qc Z)) Z<|oY Z (fun G U=>(Qk ZO Z)) Z<|oY Z (fun G U=>(Qi Z U.1 uz27 Z Z)) Z<|oY Z (fun G U=>(Qk J4 Z)) Z<|oY Z (fun G U=>(Qi Z U.2 uz3 Z Z)) Z<|oL Z (fun Q_ hQ_ hP_=>(sc _ Tryz.func68 Z Qo Z Z (Q3 (XN m _ hT.pow) fun w72 hb=>?_)))
    replace hcw:=hcw.then_below hb;replace h:=h.bel hb;replace hT:=hT.bel hb;replace hB3:=hB3.bel hb;have zz72:=hb.size;clear hb
    refine Wn<|hQ_ _ _ (⟨h.blk,hB3⟩) ?_
    clear hQ_ hP_ Q_;refine oL Z (fun Q_ hQ_ hP_=>(sc _ fz29 Z Qo Z Z ((xdisk h hT hcw (fun S hd=>U1 gd D S (Zz m) _ hd.at_ hok)).mono ?_)));rintro e_ w73 ⟨rfl,h1,hT,hcw,zz73,hX⟩;refine cR ?_;replace hB3:=hB3.chg hX (fun e=>e.2.1 Q0);clear hX h;have h:=h1;clear h1
    refine Wn<|hQ_ _ _ (⟨h.blk,hB3⟩) ?_
    clear hQ_ hP_ Q_;refine oL Z (fun Q_ hQ_ hP_=>(sc _ fz70 Z Qo Z Z (Q3 (YI m _) fun w74 hb=>?_)));replace hcw:=hcw.then_below hb;replace h:=h.bel hb;replace hT:=hT.bel hb;replace hB3:=hB3.bel hb;have zz74:=hb.size;clear hb
    refine Wn<|hQ_ _ _ (⟨h.blk,hB3⟩) ?_
    clear hQ_ hP_ Q_;refine oL Z (fun Q_ hQ_ hP_=>(sc _ fz69 Z Qo Z Z ((Qtj h hT hcw (fun S hd=>Ul gr D S _ hd.at_ (Zz m) hok Qb)).mono ?_)));rintro e_ w75 ⟨rfl,h1,hT,hcw,zz75,hX⟩;refine cR ?_;replace hB3:=hB3.chg hX (fun e=>e.2.1 Q0);clear hX h;have h:=h1;clear h1
    refine Wn<|hQ_ _ _ (⟨h.blk,hB3⟩) ?_
    clear hQ_ hP_ Q_
    refine oY Z (fun G U=>(QL Z Z)) Z<|oY Z (fun G U=>(Qy Z)) Z<|oN<|nN<|Qg ?_
    rw [decide_eq_true rfl];exact (rT Z Z (h.done (hG.remove _) hcw)).1
end
end
section
open Go.ChangeShapes Go.WideShapes Go.ChangeAt Go.RowKit
structure Op15 where
  ask:Int
  n:Int
  at_:Int
  data:List UInt8
  picks:List Int
  vp:Value
def Op15.cells (o:Op15):List Value:=[.int .i64 o.ask,.int .i64 o.n,.int .i64 o.at_,Qv o.data,o.vp]
theorem Op15.cells_length (o:Op15):o.cells.length=5:=rfl
structure Op15.ok (w:World) (o:Op15):Prop where
  n:-9223372036854775808≤o.n∧o.n≤9223372036854775807
  at_:-9223372036854775808≤o.at_∧o.at_≤9223372036854775807
  picks:Reads w 1 o.vp o.picks.length (o.picks.map fun k=>.int .i64 k)
theorem Op15.ok.bel {w w':World} {o:Op15} (h:o.ok w) (hb:Below w.heap.size w w'):o.ok w':=⟨h.n,h.at_,h.picks.belowAll hb⟩
def Ops15At (w:World) (v:Value) (l:List Op15):Prop:=Reads w 5 v l.length (l.flatMap Op15.cells)∧∀ o∈l,o.ok w
theorem Ops15At.bel {w w':World} {v:Value} {l:List Op15} (h:Ops15At w v l) (hb:Below w.heap.size w w'):Ops15At w' v l:=⟨h.1.belowAll hb,fun o ho=>(h.2 o ho).bel hb⟩
instance:Inhabited Op15:=⟨⟨0,0,0,[],[],.bool false⟩⟩
theorem len5 {α:Type} {l:List α} (h:l.length=5):∃ a b c d e,l=[a,b,c,d,e]:=by
 match l,h with
 | [a,b,c,d,e],_=>exact ⟨a,b,c,d,e,rfl⟩
section
variable {H:Type} {enc:TypeId×Value→H} {W:World} {base:Nat} {sp:Nat→Bool} {held:Bool}
theorem Qgj {P:Program} {t:TypeId} {f0 f1 f2 f3 f4:Field} {fuel:Nat} {cs:List Value} {x:DataW H×List MemPlace} (ht:P.underlying t=some (.struct #[f0,f1,f2,f3,f4])) (h:DataW.trod enc P W base sp held fuel t cs=some x) :
  ∃ y0 y1 y2 y3 y4 n,cs.length=P.cellsOf t∧DataW.trod enc P W base sp held n f0.type ((cs.drop f0.offset).take (P.cellsOf f0.type))=some y0∧DataW.trod enc P W base sp held n f1.type ((cs.drop f1.offset).take (P.cellsOf f1.type))=some y1 ∧
   DataW.trod enc P W base sp held n f2.type ((cs.drop f2.offset).take (P.cellsOf f2.type))=some y2∧DataW.trod enc P W base sp held n f3.type ((cs.drop f3.offset).take (P.cellsOf f3.type))=some y3∧DataW.trod enc P W base sp held n f4.type ((cs.drop f4.offset).take (P.cellsOf f4.type))=some y4:=by
 obtain ⟨xs,n,_,rfl,hl,hlen,hf⟩:=DataW.trod_struct ht h
 match xs,hlen with
 | [y0,y1,y2,y3,y4],_=>exact ⟨y0,y1,y2,y3,y4,n,hl,by simpa using hf 0 f0 rfl,by simpa using hf 1 f1 rfl,by simpa using hf 2 f2 rfl,by simpa using hf 3 f3 rfl,by simpa using hf 4 f4 rfl⟩
theorem cOp15:Tryz.prog.cellsOf 44=5:=by kernel_rfl
theorem Qrq (fuel:Nat) (cs:List Value) (x:DataW H×List MemPlace) (h:DataW.trod enc Tryz.prog W base sp held fuel 44 cs=some x):∃ o:Op15,cs=o.cells∧o.ok W:=by
 obtain ⟨y0,y1,y2,y3,y4,n,hl,h0,h1,h2,h3,h4⟩:=Qgj uz44 h;rw [cOp15] at hl;obtain ⟨a,b,c,d,e,rfl⟩:=len5 hl;simp only [cInt,cStr,cInts] at h0 h1 h2 h3 h4;obtain ⟨k0,e0,_,_⟩:=DataW.trod_int uz3 h0;obtain ⟨k1,e1,_,w1⟩:=DataW.trod_int uz3 h1;obtain ⟨k2,e2,_,w2⟩:=DataW.trod_int uz3 h2;obtain ⟨s3,e3,_,_⟩:=DataW.trod_string uz9 h3;obtain ⟨v,l,e4,hR⟩:=Qna _ _ _ h4;simp at e0 e1 e2 e3 e4;subst e0 e1 e2 e3 e4;exact ⟨⟨k0,k1,k2,s3.data.toList,l,e⟩,Z,Qtm w1,Qtm w2,hR⟩
theorem open_ops15 {r:Reach} {b0:Nat} {v:Value} {d:DataW H} {p:List MemPlace} (hv:Value.okWide Tryz.prog W r b0 22 v) (h:DataW.Trod enc Tryz.prog W base sp held 22 v d p) :
  ∃ l:List Op15,Ops15At W v l:=by
 obtain ⟨fuel,hf⟩:=h;obtain ⟨a0,len0,cap0,rfl⟩:=okWide_slice uz22 hv;obtain ⟨v',l,e,hR,hp⟩:=Qff Op15.cells (fun o=>o.ok W) uz22 cOp15 QF Qrq hf;simp [Value.cells] at e;exact ⟨l,e▸hR,fun o ho=>(hp o ho).1⟩
end
end
section
open Go.RowKit
def YZ (o:Op15):Bool:=decide (o.data.length≤1500) && decide (o.picks.length≤20)
def Vt (l:List Op15):Bool:=decide (l.length≤50) && l.all YZ
theorem Qvl {l:List Op15} (h:Vt l=true):l.length≤50∧∀ q∈l,q.data.length≤1500∧q.picks.length≤20:=by
 unfold Vt at h;simp only [Bool.and_eq_true,decide_eq_true_eq] at h;refine ⟨h.1,fun q hq=>?_⟩
 have:=List.all_eq_true.1 h.2 q hq
 unfold YZ at this
 simpa using this
theorem Qld {l:List Op15} {i:Nat} {o:Op15} (h:l[i]?=some o) (ho:YZ o=false):l.all YZ=false:=by
 rw [List.all_eq_false];exact ⟨o,List.mem_of_getElem? h,by simp [ho]⟩
theorem Qnt {l:List Op15} {i:Nat} {o:Op15} (h:l[i]?=some o) (hp:(l.take i).all YZ=true) (ho:YZ o=true):(l.take (i+1)).all YZ=true:=by
 rw [QK h,List.all_append,hp];simp [ho]
theorem Qfg {w:World} {g o n c:Nat} {ops:List Op15} (h:Reads w 5 (.slice (some ⟨g,o,none⟩) n c) n (ops.flatMap Op15.cells)) (hn:ops.length=n) {i j:Nat} {q:Op15} {v:Value} (hq:ops[i]?=some q) (hv:q.cells[j]?=some v):w.cell? ⟨g,o+i*5+j,none⟩=some v:=by
 subst hn;exact h.rec_ (f:=Op15.cells) (fun a _=>Op15.cells_length a) hq j v hv
theorem Qge (v:Value) (l:List Op15) (w:World) (h:Ops15At w v l):Calls Tryz.prog 6 #[v] w fun e w'=>e=.returned (.bool (Vt l))∧Below w.heap.size w w':=by
 obtain ⟨a,c,rfl,hc1,hc2⟩:=h.1.shape;have hR:=h.1;have hnn:=hR.nle
 refine Qj (args:=[.slice a l.length c]) 29 Tryz.func6 Z Z Z<|Qt [(0,.slice a l.length c)] ?_ ⟨Z,tvA⟩
 have bw:=Below.refl w.heap.size w
 refine Qa<|sa Z Z<|Wn<|tN<|Qe<|Qa<|sm Z Z<|st (QT Z Z uz22) Z<|st (Jg Z Z) Z<|Wn<|tN<|Qx Z (fun h6=>?_) (fun h6=>?_)
 ·replace h6:=Qs h6
  refine Qa<|sa Z Z<|Wn<|tN<|Qg<|tR<|(rT Z Z ⟨?_,bw⟩).1
  unfold Vt;rw [decide_eq_false Qb,Bool.false_and]
 ·replace h6:=Qs h6
  refine Qf<|tN<|Qe<|Qa<|sa Z Z<|Wn<|tN<|Qp<|JG (fun nw1_ lw1_ w1=>∃ i:Nat,nw1_=l.length-i∧lw1_=([(0,.slice a l.length c),(3,.int .i64 i)]:Env)∧(i≤l.length)∧(Below w.heap.size w w1)∧((l.take i).all YZ=true)∧(Reads w1 5 (.slice a l.length c) l.length (l.flatMap Op15.cells))) _ ⟨_,⟨0,Z,Z,Nat.zero_le _,bw,Z,hR⟩,⟨Z,Z,tvA⟩⟩ ?_
  clear bw hR;rintro nw1_ lw1_ w1 ⟨i,rfl,rfl,hi,bw,hp,hR⟩;have zz1:=bw.size
  refine Qe<|Qa<|sm Z Z<|sm Z Z<|st (QT Z Z uz22) Z<|st (QJ Z Z) Z<|Wn<|tN<|Qx Z (fun h10=>?_) (fun h10=>?_)
  ·replace h10:=Qs h10
   obtain ⟨q,hq⟩:∃ q,l[i]?=some q:=⟨_,List.getElem?_eq_getElem Qb⟩
   obtain ⟨g1,o1,c',hv,hg1⟩:=hR.some_ Qb;injection hv with e1 _ e3;subst e1 e3;obtain ⟨ap,cp,hvp,hcp,_⟩:=(h.2 q (List.mem_of_getElem? hq)).picks.shape
   refine Qf<|tN<|Qe<|Qp<|Qa<|sm Z Z<|sm Z Z<|st (QA Z Z uz22 siz44 Z Qb) Z<|st (Qk Vw Z) Z<|st (JS Z uz9 Z (Qfg hR Z hq Z)) Z<|st (QP Z Z uz9) Z<|st (Jg Z Z) Z<|sb Z Z (fun h20=>?_) (fun h20=>?_)
   ·replace h20:=Qs h20
    refine gN Z Z Z Z<|gN Z Z Z Z<|gN Z Z Z Z<|gN Z Z Z Z<|gN Z Z Z Z<|gN Z Z Z Z<|gN Z Z Z Z<|st (Qm Z Z) Z<|Wn<|tN<|QO Z (Z)<|Qa<|sa Z Z<|Wn<|tN<|Qg<|bR<|tR<|tR<|bR<|tR<|(rT Z Z ⟨?_,bw⟩).1
    unfold Vt;rw [Qld hq (by unfold YZ; simp only [Bool.and_eq_false_iff,decide_eq_false_iff_not]; omega),Bool.and_false]
   ·replace h20:=Qs h20
    refine gY Z Z Z<|sm Z Z<|gY Z Z Z<|sm Z Z<|gY Z Z Z<|st (QA Z Z uz22 siz44 Z Qb) Z<|gY Z Z Z<|st (Qk Qnx Z) Z<|gY Z Z Z<|st (JS Z uz42 Z (Qfg hR Z hq (v:=.slice ap q.picks.length cp) (by rw [← hvp]; rfl))) Z ?_
    refine gY Z Z Z<|st (QT Z Z uz42) Z<|gY Z Z Z<|st (Jg Z Z) Z<|st (Qq Z Z) Z<|Wn<|tN<|Qx Z (fun h28=>?_) (fun h28=>?_)
    ·replace h28:=Qs h28
     refine Qa<|sa Z Z<|Wn<|tN<|Qg<|bR<|tR<|tR<|bR<|tR<|(rT Z Z ⟨?_,bw⟩).1
     unfold Vt;rw [Qld hq (by unfold YZ; simp only [Bool.and_eq_false_iff,decide_eq_false_iff_not]; omega),Bool.and_false]
    ·replace h28:=Qs h28
     refine Qf<|bN<|tN<|Qw<|sm Z Z<|st (Qn Z Z Qb) Z<|sa Z Z<|Wn<|tN ⟨_,_,?_,⟨i+1,Z,Z,by omega,bw,Qnt hq hp (by unfold YZ; simp only [Bool.and_eq_true,decide_eq_true_eq]; omega),hR⟩,⟨Z,Z,tvA⟩⟩
     omega
  ·replace h10:=Qs h10
   obtain rfl:i=l.length:=by omega
   refine QQ<|tE<|tE<|bH<|tN<|Qa<|sa Z Z<|Wn<|tN<|Qg<|(rT Z Z ⟨?_,bw⟩).1
   unfold Vt;rw [List.take_length] at hp;rw [hp,decide_eq_true Qb,Bool.and_self]
end
section
open Go.RowKit Sha
theorem wb8y (x:Int):IntKind.u8.wrap x=((Kf x).toNat:Int):=by rw [w8,ZD]
section
variable {B gs gd gr c:Nat} {w w0:World} {D E:DiskD} {W V:Option Wri} {P:Option (Int×Scn)} {pw pp:Option Addr} {is cl po fw:Bool} {n pn fg:Int} {uL fL:Value} {pW:Option Addr} {nW:Option Wri} {L M:List Nat}
theorem xcrash (h:PX B w gs gd gr D E W V P pw pp is n uL cl fL fg fw pn po pW nW L M) (hT:PTabs B w) (hcw:Chg (fun k=>B≤k) w0 w) (hok:DOk D) (hbud:DBud D) (hlen:D.files.length≤1000000) {vk:Value} {ks:List Int} (hK:Reads w 1 vk ks.length (ks.map fun k=>.int .i64 k)) (hKB:0<ks.length→∀ k,vk.ownBlock=some k→k<B) :
  Calls Tryz.prog 16 #[.pointer (some ⟨gd,0,none⟩),vk] w fun e w'=>e=.returned (.tuple #[])∧PX B w' gs gd gr (Ut D ks) E W V P pw pp is n uL cl fL fg fw pn po pW nW L M∧Kps B w0 w L M w':=by
 obtain ⟨S,hd,hB,hLS,hk⟩:=h.dsk;refine (Qtc gd D S vk ks w hd.at_ hok hbud hlen hK (fun h0 k hk e=>by have:=hKB h0 k hk; have:=(hd.lo k e).1; omega)).mono ?_;rintro e_ w' ⟨rfl,hd1,hX⟩;obtain ⟨h1,h2⟩:=hk _ _ _ hX (hd.step hd1 hX hB) (fun k hk=>hk.elim .inl (fun e=>.inr e.1)) [] (fun g hg=>by cases hg);exact ⟨Z,h1,Kps.of hT hcw h2⟩
theorem xrcrash (h:PX B w gs gd gr D E W V P pw pp is n uL cl fL fg fw pn po pW nW L M) (hT:PTabs B w) (hcw:Chg (fun k=>B≤k) w0 w) (hok:DOk E) (hbud:DBud E) {vk:Value} {ks:List Int} (hK:Reads w 1 vk ks.length (ks.map fun k=>.int .i64 k)) (hKB:0<ks.length→∀ k,vk.ownBlock=some k→k<B) :
  Calls Tryz.prog 17 #[.pointer (some ⟨gr,0,none⟩),vk] w fun e w'=>e=.returned (.tuple #[])∧PX B w' gs gd gr D (Ut E ks) W V P pw pp is n uL cl fL fg fw pn po pW nW L M∧Kps B w0 w L M w':=by
 obtain ⟨S,hd,hB,hLS,hk⟩:=h.rdsk;refine (Qoy gr E S _ hd.at_ vk ks hok hbud hK (fun h0 k hk e=>by have:=hKB h0 k hk; have:=(hd.lo k e).1; omega)).mono ?_;rintro e_ w' ⟨rfl,hd1,hX⟩;obtain ⟨h1,h2⟩:=hk _ _ _ hX (hd.step hd1 hX hB) (fun k hk=>hk.elim .inl (fun e=>.inr e.1));exact ⟨Z,h1,Kps.of hT hcw h2⟩
theorem brWri (w:World):(Instr.build 37 #[]).run Tryz.prog w=.ok (.agg #[.bool false,.int .i64 0,.slice none 0 0,.bool false]) w:=by kernel_rfl
end
section
variable {B gs gd gr c:Nat} {w:World} {D:DiskD} {W:Option Wri} {P:Option (Int×Scn)} {pw pp:Option Addr} {is cl po fw:Bool} {n pn fg:Int} {uL fL:Value}
theorem Calls.trans_pl {f:FuncId} {args:Array Value} {w0 w1:World} (hcw:Chg (fun k=>B≤k) w0 w1) (h:Calls Tryz.prog f args w1 (XL B gs gd gr c w1)):Calls Tryz.prog f args w1 (fun e w'=>XL B gs gd gr c w0 e w'∧w1.heap.size≤w'.heap.size):=by
 refine h.mono ?_;rintro e w' ⟨h1,h2,h3⟩;exact ⟨⟨h1,h2,hcw.trans h3 (fun i _ hi=>hi)⟩,h3.size⟩
theorem Qoe (h:PX B w gs gd gr D D W W P pw pp is n uL cl fL fg fw pn po none none [] []) (hG:PlG c D W) (hc:c≤50) (hT:PTabs B w) (o:Op15) (ho:o.ok w) (hKB:0<o.picks.length→∀ k,o.vp.ownBlock=some k→k<B) (hd15:o.data.length≤1500) :
  Calls Tryz.prog 8 #[.pointer (some ⟨gs,0,none⟩),.agg #[.int .i64 o.ask,.int .i64 o.n,.int .i64 o.at_,Qv o.data,o.vp]] w (XL B gs gd gr c w):=by
 have hBq:=h.hB;have hok:=hG.good.ok;have hbud:DBud D:=hG.good.bud Qb;have hfew:=hG.few;obtain ⟨ask,m,at_,d,ks,vp⟩:=o;have hK:=ho.picks;simp only at hK hKB hd15 ⊢;clear ho;obtain ⟨pa,pc,rfl,_⟩:=hK.shape
 obtain ⟨pl,hpl⟩:∃ pl,ks.length=pl:=⟨_,rfl⟩
 refine Qj (args:=[.pointer (some ⟨gs,0,none⟩),.agg #[.int .i64 ask,.int .i64 m,.int .i64 at_,Qv d,.slice pa ks.length pc]]) 77 Tryz.func8 Z Z Z<|Qt [(0,.pointer (some ⟨gs,0,none⟩)),(1,.agg #[.int .i64 ask,.int .i64 m,.int .i64 at_,Qv d,.slice pa ks.length pc])] ?_ ⟨Z,Z,tvA⟩
 have hcw:=Chg.refl (fun k=>B≤k) w
 refine Qa<|J1 Z Z (fun g3 w1 hB3 hg3 hb hl3=>?_)
 replace hcw:=hcw.then_below hb;replace h:=h.add hb [g3] (fun g_ hg_=>by rw [List.mem_singleton.1 hg_]; exact ⟨hg3,hl3⟩);have hoB3:=(h.mem (g:=g3) Q0).1;replace hT:=hT.bel hb;replace hK:=hK.bel hb;have zz1:=hb.size;clear hb
 refine sa Z Z<|Wn<|tN<|Qe<|Qa<|st (Qk Vx Z) Z<|st (Qi Z hB3 uz3 Z Z) Z<|Wn<|tN<|Qp<|Qe<|Qa<|st (QL Z Z) Z<|sa Z Z<|Wn<|tN<|Qx Z (fun h7=>?_) (fun h7=>?_)
 ·replace h7:=Qs h7
  refine Qf<|tN<|Qx Z (fun h7=>?_) (fun h7=>?_)
  ·replace h7:=Qs h7
   refine Qa<|sm Z Z<|st (QE Z hB3 uz44 Z siz44) Z<|sc _ Tryz.func15 Z Qo Z Z<|(Calls.trans_pl hcw (Vc h.drop hG hc hT ask m at_ d pa ks.length pc hd15)).mono ?_
   rintro e_ w2 ⟨⟨rfl,hP,hcw⟩,hz⟩
   refine cR<|sa Z Z<|Wn<|tN<|Qg<|bR<|tR ?_
   exact (rT Z Z ⟨Z,hP,hcw⟩).1
  ·replace h7:=Qs h7
   omega
 ·replace h7:=Qs h7
  refine Qa<|st (QL Z Z) Z<|sa Z Z<|Wn<|tN<|Qx Z (fun h7=>?_) (fun h7=>?_)
  ·replace h7:=Qs h7
   refine Qf<|tN<|Qx Z (fun h7=>?_) (fun h7=>?_)
   ·replace h7:=Qs h7
    refine Qa<|sm Z Z<|st (QE Z hB3 uz44 Z siz44) Z<|sc _ Tryz.func15 Z Qo Z Z<|(Calls.trans_pl hcw (Vc h.drop hG hc hT ask m at_ d pa ks.length pc hd15)).mono ?_
    rintro e_ w3 ⟨⟨rfl,hP,hcw⟩,hz⟩
    refine cR<|sa Z Z<|Wn<|tN<|Qg<|bR<|tR ?_
    exact (rT Z Z ⟨Z,hP,hcw⟩).1
   ·replace h7:=Qs h7
    omega
  ·replace h7:=Qs h7
   refine Qw<|st (QL Z Z) Z<|sa Z Z<|Wn<|tN<|Qx Z (fun h7=>?_) (fun h7=>?_)
   ·replace h7:=Qs h7
    refine Qa<|sm Z Z<|st (QE Z hB3 uz44 Z siz44) Z<|sc _ Tryz.func15 Z Qo Z Z<|(Calls.trans_pl hcw (Vc h.drop hG hc hT ask m at_ d pa ks.length pc hd15)).mono ?_
    rintro e_ w4 ⟨⟨rfl,hP,hcw⟩,hz⟩
    refine cR<|sa Z Z<|Wn<|tN<|Qg<|bR<|tR ?_
    exact (rT Z Z ⟨Z,hP,hcw⟩).1
   ·replace h7:=Qs h7
    refine Qa<|st (QL Z Z) Z<|sa Z Z<|Wn<|tN<|Qx Z (fun h14=>?_) (fun h14=>?_)
    ·replace h14:=Qs h14;refine QS (fun G=>Blk G gs 41 (ZW gd gr pw pp is n uL cl fL fg fw pn po)∧Blk G g3 44 #[.int .i64 ask,.int .i64 m,.int .i64 at_,Qv d,.slice pa ks.length pc]) [0,1,2,3,4,5,6] [Y,Y,Y,Y,Y,Y,false] Qo Qo (⟨h.blk.drew,hB3.drew⟩) ?_;obtain ⟨w5,hw_,hb⟩:=QN w1;rw [← hw_];clear hw_;have hS:=hb;replace hcw:=hcw.then_below hb;replace h:=h.bel hb;replace hT:=hT.bel hb;replace hK:=hK.bel hb;replace hB3:=hB3.bel hb;have zz5:=hb.size;clear hb
     refine oY Z (fun G U=>(Qd Z)) Z<|oY Z (fun G U=>(Qc Z)) Z<|oY Z (fun G U=>(Qk XC Z)) Z<|oY Z (fun G U=>(Qi Z U.1 uz23 Z Z)) Z<|oY Z (fun G U=>(Qk Qnx Z)) Z<|oY Z (fun G U=>(Qi Z U.2 uz42 Z Z)) Z<|oL Z (fun Q_ hQ_ hP_=>(sc _ Tryz.func16 Z Qo Z Z ((xcrash h hT hcw hok hbud Qb hK hKB).mono ?_)))
     rintro e_ w6 ⟨rfl,h1,hT,hcw,zz6,hX⟩;refine cR ?_;replace hB3:=hB3.chg hX (fun e=>e.2.1 Q0);replace hK:Reads w6 1 _ _ _:=Reads.chgS hK hX (fun h0 k hk e=>by have:=hKB h0 k hk; have:=e.1; omega);clear hX h;have h:=h1;clear h1
     refine Wn<|hQ_ _ _ (⟨h.blk,hB3⟩) ?_
     clear hQ_ hP_ Q_
     refine oN<|nN<|QS (fun G=>Blk G gs 41 (ZW gd gr pw pp is n uL cl fL fg fw pn po)∧Blk G g3 44 #[.int .i64 ask,.int .i64 m,.int .i64 at_,Qv d,.slice pa ks.length pc]) [0,1,2,3,4,5,6] [Y,Y,Y,Y,Y,Y,false] Qo Qo (⟨h.blk.drew,hB3.drew⟩) ?_
     obtain ⟨w7,hw_,hb⟩:=QN w6;rw [← hw_];clear hw_;have hS:=hb;replace hcw:=hcw.then_below hb;replace h:=h.bel hb;replace hT:=hT.bel hb;replace hK:=hK.bel hb;replace hB3:=hB3.bel hb;have zz7:=hb.size;clear hb
     refine oY Z (fun G U=>(Qd Z)) Z<|oY Z (fun G U=>(Qc Z)) Z<|oY Z (fun G U=>(Qk ZO Z)) Z<|oY Z (fun G U=>(Qi Z U.1 uz27 Z Z)) Z<|oY Z (fun G U=>(Qk Qnx Z)) Z<|oY Z (fun G U=>(Qi Z U.2 uz42 Z Z)) Z<|oL Z (fun Q_ hQ_ hP_=>(sc _ Tryz.func17 Z Qo Z Z ((xrcrash h hT hcw hok hbud hK hKB).mono ?_)))
     rintro e_ w8 ⟨rfl,h1,hT,hcw,zz8,hX⟩;refine cR ?_;replace hB3:=hB3.chg hX (fun e=>e.2.1 Q0);clear hX h hK;have h:=h1;clear h1
     refine Wn<|hQ_ _ _ (⟨h.blk,hB3⟩) ?_
     clear hQ_ hP_ Q_
     refine oN<|nN<|Qa<|sm Z Z<|st (Qc Z) Z<|st (Qk Yr Z) Z<|KL Z Z h.blk siz33 Z (by unfold ZW; simp) (fun w9 bB cC=>?_)
     have hgs_:=h.gs_;replace h:=h.recw cC bB;replace hT:=hT.chg cC (fun k hk=>by have h1:k=gs:=hk; subst h1; exact hgs_.1);replace hB3:=hB3.chg cC (fun e=>hgs_.2.1 (by have e2:g3=gs:=e; rw [← e2]; simp));replace hcw:=hcw.next cC (fun i hi=>.inl (by have h1:i=gs:=hi; subst h1; exact hgs_.1));have zz9:=cC.size;clear bB cC
     refine Wn<|tN<|Qa<|sm Z Z<|st (Ja Z (brWri _)) Z<|st (Qc Z) Z<|st (Qk KG Z) Z<|ssBO (ZW gd gr none pp false 0 (.slice none 0 0) false fL fg fw pn po) Z Z h.blk siz37 (by unfold ZW; simp) (by simp [Value.oneCell']) Z (fun w10 bB cC=>?_)
     have hgs_:=h.gs_;replace h:=h.recx cC bB (V2:=none) (fun q col=>⟨rfl,rfl⟩);replace hT:=hT.chg cC (fun k hk=>by have h1:k=gs:=hk; subst h1; exact hgs_.1);replace hB3:=hB3.chg cC (fun e=>hgs_.2.1 (by have e2:g3=gs:=e; rw [← e2]; simp));replace hcw:=hcw.next cC (fun i hi=>.inl (by have h1:i=gs:=hi; subst h1; exact hgs_.1));have zz10:=cC.size;clear bB cC
     refine Wn<|tN<|Qa<|sa Z Z<|Wn<|tN<|Qg<|bR<|tR ?_
     exact (rT Z Z (h.done (hG.crash ks) hcw)).1
    ·replace h14:=Qs h14
     refine Qe<|Qa<|st (QL Z Z) Z<|sa Z Z<|Wn<|tN<|Qx Z (fun h37=>?_) (fun h37=>?_)
     ·replace h37:=Qs h37
      refine Qf<|tN<|Qx Z (fun h37=>?_) (fun h37=>?_)
      ·replace h37:=Qs h37
       refine Qa<|sm Z Z<|st (QE Z hB3 uz44 Z siz44) Z<|sc _ Tryz.func18 Z Qo Z Z<|(Calls.trans_pl hcw (Qeu h.drop hG hc hT ask m at_ d pa ks.length pc hd15)).mono ?_
       rintro e_ w11 ⟨⟨rfl,hP,hcw⟩,hz⟩
       refine cR<|sa Z Z<|Wn<|tN<|Qg<|bR<|tR ?_
       exact (rT Z Z ⟨Z,hP,hcw⟩).1
      ·replace h37:=Qs h37
       omega
     ·replace h37:=Qs h37
      refine Qw<|st (QL Z Z) Z<|sa Z Z<|Wn<|tN<|Qx Z (fun h37=>?_) (fun h37=>?_)
      ·replace h37:=Qs h37
       refine Qa<|sm Z Z<|st (QE Z hB3 uz44 Z siz44) Z<|sc _ Tryz.func18 Z Qo Z Z<|(Calls.trans_pl hcw (Qeu h.drop hG hc hT ask m at_ d pa ks.length pc hd15)).mono ?_
       rintro e_ w12 ⟨⟨rfl,hP,hcw⟩,hz⟩
       refine cR<|sa Z Z<|Wn<|tN<|Qg<|bR<|tR ?_
       exact (rT Z Z ⟨Z,hP,hcw⟩).1
      ·replace h37:=Qs h37
       refine Qa<|st (QL Z Z) Z<|sa Z Z<|Wn<|tN<|Qx Z (fun h43=>?_) (fun h43=>?_)
       ·replace h43:=Qs h43;refine QS (fun G=>Blk G gs 41 (ZW gd gr pw pp is n uL cl fL fg fw pn po)∧Blk G g3 44 #[.int .i64 ask,.int .i64 m,.int .i64 at_,Qv d,.slice pa ks.length pc]) [0,1,2,3,4,5,7,8,9,10,11,12,14,15,16,17,18,19,21,22,23,24,25,26,6,13,20,27,28,29] [Y,Y,Y,Y,Y,Y,Y,Y,Y,Y,Y,Y,Y,Y,Y,Y,Y,Y,Y,Y,Y,Y,Y,Y,false,false,false,false,Y,Y] Qo Qo (⟨h.blk.drew,hB3.drew⟩) ?_;obtain ⟨w13,hw_,hb⟩:=QN w1;rw [← hw_];clear hw_;have hS:=hb;replace hcw:=hcw.then_below hb;replace h:=h.bel hb;replace hT:=hT.bel hb;replace hK:=hK.bel hb;replace hB3:=hB3.bel hb;have zz13:=hb.size;clear hb
        refine oY Z (fun G U=>(Qd Z)) Z<|oY Z (fun G U=>(Qc Z)) Z<|oY Z (fun G U=>(Qk XC Z)) Z<|oY Z (fun G U=>(Qi Z U.1 uz23 Z Z)) Z<|oY Z (fun G U=>(Qk J4 Z)) Z<|oY Z (fun G U=>(Qi Z U.2 uz3 Z Z)) Z<|oY Z (fun G U=>(Qk Qdl Z)) Z<|oY Z (fun G U=>(Qi Z U.2 uz3 Z Z)) Z<|oY Z (fun G U=>(Qk Qdl Z)) Z<|oY Z (fun G U=>(Qi Z U.2 uz3 Z Z)) Z<|oY Z (fun G U=>(Qlr Z Z QF Z)) Z<|oY Z (fun G U=>(QM (z:=((Kf (at_.tmod 256)).toNat:Int)) Z uz3 uz5 (wb8y _))) Z<|oY Z (fun G U=>(Qd Z)) Z<|oY Z (fun G U=>(Qc Z)) Z<|oY Z (fun G U=>(Qk ZO Z)) Z<|oY Z (fun G U=>(Qi Z U.1 uz27 Z Z)) Z<|oY Z (fun G U=>(Qk J4 Z)) Z<|oY Z (fun G U=>(Qi Z U.2 uz3 Z Z)) Z<|oY Z (fun G U=>(Qk Qdl Z)) Z<|oY Z (fun G U=>(Qi Z U.2 uz3 Z Z)) Z<|oY Z (fun G U=>(Qk Qdl Z)) Z<|oY Z (fun G U=>(Qi Z U.2 uz3 Z Z)) Z<|oY Z (fun G U=>(Qlr Z Z QF Z)) Z<|oY Z (fun G U=>(QM (z:=((Kf (at_.tmod 256)).toNat:Int)) Z uz3 uz5 (wb8y _))) Z<|oL Z (fun Q_ hQ_ hP_=>(sc _ fz13 Z Qo Z Z (Q3 (Ua m _ hT.pow) fun w14 hb=>?_)))
        replace hcw:=hcw.then_below hb;replace h:=h.bel hb;replace hT:=hT.bel hb;replace hK:=hK.bel hb;replace hB3:=hB3.bel hb;have zz14:=hb.size;clear hb
        refine Wn<|hQ_ _ _ (⟨h.blk,hB3⟩) ?_
        clear hQ_ hP_ Q_;refine oL Z (fun Q_ hQ_ hP_=>(sc _ Tryz.func19 Z Qo Z Z ((xdisk h hT hcw (fun S hd=>Rot_any gd D S (Qz m) at_ (Kf (at_.tmod 256)) _ hd.at_ hok)).mono ?_)));rintro e_ w15 ⟨rfl,h1,hT,hcw,zz15,hX⟩;refine cR ?_;replace hB3:=hB3.chg hX (fun e=>e.2.1 Q0);clear hX h hK;have h:=h1;clear h1
        refine Wn<|hQ_ _ _ (⟨h.blk,hB3⟩) ?_
        clear hQ_ hP_ Q_;refine oL Z (fun Q_ hQ_ hP_=>(sc _ fz21 Z Qo Z Z (Q3 (Yd m _) fun w16 hb=>?_)));replace hcw:=hcw.then_below hb;replace h:=h.bel hb;replace hT:=hT.bel hb;replace hB3:=hB3.bel hb;have zz16:=hb.size;clear hb
        refine Wn<|hQ_ _ _ (⟨h.blk,hB3⟩) ?_
        clear hQ_ hP_ Q_;refine oL Z (fun Q_ hQ_ hP_=>(sc _ Tryz.func20 Z Qo Z Z ((Qtj h hT hcw (fun S hd=>Qxa gr D S _ hd.at_ (Qz m) at_ (Kf (at_.tmod 256)) hok hbud)).mono ?_)));rintro e_ w17 ⟨rfl,h1,hT,hcw,zz17,hX⟩;refine cR ?_;replace hB3:=hB3.chg hX (fun e=>e.2.1 Q0);clear hX h;have h:=h1;clear h1
        refine Wn<|hQ_ _ _ (⟨h.blk,hB3⟩) ?_
        clear hQ_ hP_ Q_
        refine oY Z (fun G U=>(QL Z Z)) Z<|oY Z (fun G U=>(Qy Z)) Z<|oN<|nN<|Qg<|bR<|tR ?_
        rw [decide_eq_true rfl];exact (rT Z Z (h.done (hG.rot (Qz m) at_ (Kf (at_.tmod 256))) hcw)).1
       ·replace h43:=Qs h43
        refine Qf<|bN<|tN<|Qa<|sm Z Z<|st (QE Z hB3 uz44 Z siz44) Z<|sc _ Tryz.func22 Z Qo Z Z<|(Calls.trans_pl hcw (Qsh h.drop hG hc hT ask m at_ d pa ks.length pc)).mono ?_
        rintro e_ w18 ⟨⟨rfl,hP,hcw⟩,hz⟩
        refine cR<|sa Z Z<|Wn<|tN<|Qg ?_
        exact (rT Z Z ⟨Z,hP,hcw⟩).1
end
end
section
open Go.RowKit Sha
def PlS (B:Nat) (w:World) (gs gd gr c:Nat):Prop :=
  ∃ D W P pw pp is n uL cl fL fg fw pn po,PX B w gs gd gr D D W W P pw pp is n uL cl fL fg fw pn po none none [] []∧PlG c D W
section
variable {B gs gd gr c:Nat} {w w':World} {D:DiskD} {S T:Nat→Prop}
theorem PlS.bel (h:PlS B w gs gd gr c) (hb:Below w.heap.size w w'):PlS B w' gs gd gr c:=by
 obtain ⟨_,_,_,_,_,_,_,_,_,_,_,_,_,_,h1,h2⟩:=h;exact ⟨_,_,_,_,_,_,_,_,_,_,_,_,_,_,h1.bel hb,h2⟩
theorem PlS.up (h:PlS B w gs gd gr c):PlS B w gs gd gr (c+1):=by
 obtain ⟨_,_,_,_,_,_,_,_,_,_,_,_,_,_,h1,h2⟩:=h;exact ⟨_,_,_,_,_,_,_,_,_,_,_,_,_,_,h1,h2.mono⟩
theorem PlS.new (hB:Blk w gs 41 (ZW gd gr none none false 0 (.slice none 0 0) false (.slice none 0 0) 0 false 0 false)) (hd:Own B w gd D S) (hr:ROwn B w gr D T) (hdr:∀ k,S k→¬T k) (h1:¬S gs) (h2:¬T gs) (hBg:B≤gs) (hG:PlG 0 D none):PlS B w gs gd gr 0:=by
 classical
 refine ⟨D,none,none,none,none,false,0,.slice none 0 0,false,.slice none 0 0,0,false,0,false,⟨w.heap.size,fun k=>if k=gs then 6 else if S k then 1 else if T k then 2 else 0,⟨hB,⟨if_pos Z,hBg,hB.lt⟩,⟨S,hd,fun k hk=>⟨?_,(hd.lo k hk).2⟩⟩,⟨T,hr,fun k hk=>⟨?_,(hr.lo k hk).2⟩⟩,Z,⟨Z,Z⟩,⟨Z,Z⟩,Z,Nat.le_refl _,Nat.le_trans hBg (Nat.le_of_lt hB.lt)⟩,Z,LOK.nil,MOK.nil⟩,hG⟩
 ·have:k≠gs:=fun e=>h1 (e▸hk)
  simp only [if_neg this,if_pos hk]
 ·have:k≠gs:=fun e=>h2 (e▸hk)
  have hs:¬S k:=fun e=>hdr k e hk
  simp only [if_neg this,if_neg hs,if_pos hk]
theorem Qli (h:PlS B w gs gd gr c) (hc:c≤50) (hT:PTabs B w) (o:Op15) (ho:o.ok w) (hKB:0<o.picks.length→∀ k,o.vp.ownBlock=some k→k<B) (hd15:o.data.length≤1500) :
  Calls Tryz.prog 8 #[.pointer (some ⟨gs,0,none⟩),.agg #[.int .i64 o.ask,.int .i64 o.n,.int .i64 o.at_,Qv o.data,o.vp]] w fun e w'=>e=.returned (.bool true)∧PlS B w' gs gd gr (c+1)∧Chg (fun k=>B≤k) w w':=by
 obtain ⟨_,_,_,_,_,_,_,_,_,_,_,_,_,_,h1,h2⟩:=h;exact Qoe h1 h2 hc hT o ho hKB hd15
theorem PlS.used (h:PlS B w gs gd gr c) (hc:c≤51):∃ u:Int,Calls Tryz.prog 9 #[.pointer (some ⟨gd,0,none⟩)] w (fun e w'=>e=.returned (.int .i64 u)∧Below w.heap.size w w') ∧
  ∀ w',Below w.heap.size w w'→Calls Tryz.prog 10 #[.pointer (some ⟨gr,0,none⟩)] w' (fun e w''=>e=.returned (.int .i64 u)∧Below w'.heap.size w' w''):=by
 obtain ⟨D,_,_,_,_,_,_,_,_,_,_,_,_,_,h1,h2⟩:=h;obtain ⟨S,hd,_⟩:=h1.dsk;refine ⟨D.used,Qwt gd D S _ hd.at_,fun w' hb=>?_⟩;obtain ⟨R,hr,_⟩:=(h1.bel hb).rdsk
 obtain ⟨vF,rs,h3,_⟩:=hr.at_
 exact Qga gr D vF rs w' h3 h2.good.ok<|h2.good.bud Qb
theorem brPlay (gd gr:Nat) (w:World):(Instr.build 41 #[(0,.pointer (some ⟨gd,0,none⟩)),(3,.pointer (some ⟨gr,0,none⟩))]).run Tryz.prog w=.ok (.agg (ZW gd gr none none false 0 (.slice none 0 0) false (.slice none 0 0) 0 false 0 false)) w:=by kernel_rfl
end
theorem PackPlays_walk (w:World) (lim:Int) (vl:Value) (l:List Op15) (hO:Ops15At w vl l) (hT:PTabs w.heap.size w) :
  Calls Tryz.prog 3 #[.int .i64 lim,vl] w fun e w'=>e=.returned (.bool true)∧Below w.heap.size w w':=by
 obtain ⟨a,c,rfl,hc1,hc2⟩:=hO.1.shape;have hnn:=hO.1.nle
 by_cases hlim:0≤lim∧lim≤16777216
 ·have hfl:=@Qvl l
  refine Qj (args:=[.int .i64 lim,.slice a l.length c]) 84 Tryz.func3 Z Z Z<|Qt [(0,.int .i64 lim),(1,.slice a l.length c)] ?_ ⟨Z,Z,tvA⟩
  have bw:=Below.refl w.heap.size w
  refine Qa<|sa Z Z<|Wn<|tN<|Qa<|sm Z Z<|sc _ fz4 Z Qo Z Z<|(Qxg lim _ hlim).mono ?_
  rintro e_ w1 ⟨gd,S0,rfl,h0,hS0,hb⟩;refine cR ?_;replace bw:=Ql bw hb;have zz1:=hb.size;clear hb
  have hd:Own w.heap.size w1 gd (YC lim) S0:=⟨h0,fun k hk=>by have:=hS0 k hk; have:=bw.size; omega⟩
  have hlo:=hd.lo;clear h0 hS0
  refine sm Z Z<|st (Qu Z Z) Z<|st (Qu Z Z) Z<|sa Z Z<|sa Z Z<|Wn<|tN<|Qa<|sm Z Z<|sc _ fz5 Z Qo Z Z<|(RNew_ok lim _ hlim).mono ?_
  rintro e_ w2 ⟨gr,T0,rfl,h0,hT0,hb⟩;refine cR ?_;replace bw:=Ql bw hb;replace hd:=hd.bel hb;have zz2:=hb.size;clear hb
  have hr:ROwn w.heap.size w2 gr (YC lim) T0:=⟨h0,fun k hk=>by have:=hT0 k hk; have:=bw.size; omega⟩
  have hdr:∀ k,S0 k→¬T0 k:=fun k h1 h2=>by have:=hlo k h1; have:=hT0 k h2; omega
  clear h0 hT0 hlo
  refine sm Z Z<|st (Qu Z Z) Z<|st (Qu Z Z) Z<|sa Z Z<|sa Z Z<|Wn<|tN<|Qe<|Qa<|sm Z Z<|sm Z Z<|st (QC Z Z) Z<|sbN Z (Z) Z<|gY Z Z Z<|sm Z Z<|gY Z Z Z<|sc _ Tryz.func6 Z Qo Z Z (Q3 (Qge _ l _ (hO.bel bw)) fun w3 hb=>?_)
  replace bw:=Ql bw hb;replace hd:=hd.bel hb;replace hr:=hr.bel hb;have zz3:=hb.size;clear hb
  refine gY Z Z Z<|st (Jk Z) Z<|st (Qq Z Z) Z<|sb Z Z (fun h30=>?_) (fun h30=>?_)
  ·replace h30:=Qs h30
   refine gN Z Z Z Z<|gN Z Z Z Z<|st (Qm Z Z) Z<|Wn<|tN<|QO Z (Z)<|Qa<|sm Z Z<|sm Z Z<|st (QL Z Z) Z<|UP Z (Z) Z<|gY Z Z Z<|sc _ fz7 Z Qo Z Z (Q3 (UU _ ((hT.bel bw).to bw.size)) fun w4 hb=>?_)
   replace bw:=Ql bw hb;replace hd:=hd.bel hb;replace hr:=hr.bel hb;have zz4:=hb.size;clear hb
   refine st (Qm Z Z) Z<|sa Z Z<|Wn<|tN<|Qg<|tR ?_
   exact (rT Z Z ⟨Z,bw⟩).1
  ·replace h30:=Qs h30;obtain ⟨hl50,hlf⟩:=hfl (by simpa using h30)
   refine gY Z Z Z<|sm Z Z<|gY Z Z Z<|st (QC Z Z) Z<|st (Qq Z Z) Z<|Wn<|tN<|QX Z (Z)<|Qf<|tN<|Qa<|sm Z Z<|sm Z Z<|st (Ja Z (brPlay _ _ _)) Z ?_
   have hlo:=hd.lo;have hlr:=hr.lo;refine J1 Z Z (fun g43 w5 hB43 hg43 hb hl43=>?_);replace bw:=Ql bw hb;replace hd:=hd.bel hb;replace hr:=hr.bel hb;have zz5:=hb.size;clear hb
   refine sa Z Z<|Wn<|tN<|Qe<|Qa<|sa Z Z<|Wn<|tN<|Qp ?_
   obtain ⟨gs,rfl⟩:∃ gs,gs=g43:=⟨_,rfl⟩
   have hP:PlS w.heap.size w5 gs gd gr 0:=PlS.new hB43 hd hr hdr (fun e=>by have:=hlo _ e; omega) (fun e=>by have:=hlr _ e; omega) (by have:=bw.size; omega) (PlG.new hlim);clear hd hr hB43;refine JG (fun nw6_ lw6_ w6=>∃ i:Nat,nw6_=l.length-i∧lw6_=([(1,.slice a l.length c),(5,.pointer (some ⟨gd,0,none⟩)),(7,.pointer (some ⟨gr,0,none⟩)),(9,.pointer (some ⟨gs,0,none⟩)),(10,.int .i64 i)]:Env)∧(PlS w.heap.size w6 gs gd gr i)∧(i≤l.length)∧(Below w.heap.size w w6)) _ ⟨_,⟨0,Z,Z,hP,Nat.zero_le _,bw⟩,⟨Z,Z,Z,Z,Z,tvA⟩⟩ ?_;clear hP bw;rintro nw6_ lw6_ w6 ⟨i,rfl,rfl,hP,hi,bw⟩;have zz6:=bw.size
   refine Qe<|Qa<|sm Z Z<|sm Z Z<|st (QT Z Z uz22) Z<|st (QJ Z Z) Z<|Wn<|tN<|Qx Z (fun h47=>?_) (fun h47=>?_)
   ·replace h47:=Qs h47
    obtain ⟨o,ho⟩:∃ o,l[i]?=some o:=⟨_,List.getElem?_eq_getElem Qb⟩
    have hom:=List.mem_of_getElem? ho;obtain ⟨g1,o1,c',hv,hg1⟩:=hO.1.some_ Qb;injection hv with e1 _ e3;subst e1 e3;obtain ⟨hot,hop⟩:=hlf o hom;have hok:=hO.2 o hom;obtain ⟨ap,cp,hvp,hcp,_⟩:=hok.picks.shape
    have hcells:o.cells=[.int .i64 o.ask,.int .i64 o.n,.int .i64 o.at_,Qv o.data,.slice ap o.picks.length cp]:=by unfold Op15.cells; rw [hvp]
    have hKlt:0<o.picks.length→∀ k,o.vp.ownBlock=some k→k<w.heap.size:=fun h0 k hk=>hok.picks.ownLt h0 hk
    refine Qf<|tN<|Qe<|Qp<|Qa<|sm Z Z<|sm Z Z<|st (QA Z Z uz22 siz44 Z Qb) Z<|st (Jw (cs:=[.int .i64 o.ask,.int .i64 o.n,.int .i64 o.at_,Qv o.data,.slice ap o.picks.length cp]) Z uz44 Z siz44 (hcells▸(hO.1.bel bw).rec_ (f:=Op15.cells) (fun a _=>Op15.cells_length a) ho)) Z<|Jm inf44 Z (fun g11 w7 hB11 hg11 hb hl11=>?_)
    have pq:=hb;replace bw:=Ql bw hb;have zz7:=hb.size;clear hb;refine QY Z Z hB11 siz44 Z Z (fun w8 bB cC=>?_);replace hB11:=bB;clear bB;replace pq:=Ji pq cC Qb;replace bw:=Ji bw cC Qb;have zz8:=cC.size;clear cC
    refine Wn<|tN<|Qe<|Qa<|st (Qk Vx Z) Z<|st (Qi Z hB11 uz3 Z Z) Z<|st (QJ Z Z) Z<|sb Z Z (fun h57=>?_) (fun h57=>?_)
    ·replace h57:=Qs h57
     refine gN Z Z Z Z<|gN Z Z Z Z<|gN Z Z Z Z<|st (Qm Z Z) Z<|sm Z Z<|gN Z Z Z Z<|gN Z Z Z Z<|gN Z Z Z Z<|gN Z Z Z Z<|gU Z Z Z Z<|gU Z Z Z Z<|gU Z Z Z Z<|gN Z Z Z Z<|st (Qm Z Z) Z<|Wn<|tN<|QO Z (Z)<|QQ<|tE<|bH<|tN<|Qw<|sm Z Z<|st (Qn Z Z Qb) Z<|sa Z Z<|Wn ?_
     replace hP:=hP.bel pq;clear pq;refine tN ⟨_,_,?_,⟨i+1,Z,Z,(by first|exact hP'|exact hP.up),by omega,bw⟩,⟨Z,Z,Z,Z,Z,tvA⟩⟩
     omega
    ·replace h57:=Qs h57
     refine gY Z Z Z<|st (Qk Vx Z) Z<|gY Z Z Z<|st (Qi Z hB11 uz3 Z Z) Z<|gY Z Z Z<|st (Jg Z Z) Z<|st (Qq Z Z) Z<|sb Z Z (fun h62=>?_) (fun h62=>?_)
     ·replace h62:=Qs h62
      refine gN Z Z Z Z<|gN Z Z Z Z<|gN Z Z Z Z<|gN Z Z Z Z<|gU Z Z Z Z<|gU Z Z Z Z<|gU Z Z Z Z<|gN Z Z Z Z<|st (Qm Z Z) Z<|Wn<|tN<|QO Z (Z)<|QQ<|tE<|bH<|tN<|Qw<|sm Z Z<|st (Qn Z Z Qb) Z<|sa Z Z<|Wn ?_
      replace hP:=hP.bel pq;clear pq;refine tN ⟨_,_,?_,⟨i+1,Z,Z,(by first|exact hP'|exact hP.up),by omega,bw⟩,⟨Z,Z,Z,Z,Z,tvA⟩⟩
      omega
     ·replace h62:=Qs h62
      refine gY Z Z Z<|st (Qk Vx Z) Z<|gY Z Z Z<|st (Qi Z hB11 uz3 Z Z) Z<|gY Z Z Z<|st (QL Z Z) Z<|gY Z Z Z<|sb Z Z (fun h66=>?_) (fun h66=>?_)
      ·replace h66:=Qs h66
       refine gY Z Z Z<|st (Qk Qdl Z) Z<|gY Z Z Z<|st (Qi Z hB11 uz3 Z Z) Z<|gY Z Z Z<|st (QJ Z Z) Z<|gY Z Z Z<|st (Qm Z Z) Z<|st (Qq Z Z) Z<|Wn<|tN<|Qx Z (fun h71=>?_) (fun h71=>?_)
       ·replace h71:=Qs h71
        refine QQ<|tE<|bH<|tN<|Qw<|sm Z Z<|st (Qn Z Z Qb) Z<|sa Z Z<|Wn ?_
        replace hP:=hP.bel pq;clear pq;refine tN ⟨_,_,?_,⟨i+1,Z,Z,(by first|exact hP'|exact hP.up),by omega,bw⟩,⟨Z,Z,Z,Z,Z,tvA⟩⟩
        omega
       ·replace h71:=Qs h71
        refine Qf<|tN<|Qa<|sm Z Z<|st (QE Z hB11 uz44 Z siz44) Z ?_
        replace hP:=hP.bel pq;clear pq;have hda:=Qli hP Qb (hT.bel bw) o (hok.bel bw) hKlt hot;rw [hvp] at hda
        refine sc _ Tryz.func8 Z Qo Z Z<|(hda).mono ?_
        rintro e_ w9 ⟨rfl,hP',hX⟩;refine cR ?_;have bq:=bchg bw hX (fun k hk=>hk);have zz9:=hX.size;clear hX hda bw;have bw:=bq;clear bq
        refine st (Jk Z) Z<|Wn<|tN<|QX Z (Z)<|Qf<|bN<|tN<|Qw<|sm Z Z<|st (Qn Z Z Qb) Z<|sa Z Z<|Wn<|tN ⟨_,_,?_,⟨i+1,Z,Z,(by first|exact hP'|exact hP.up),by omega,bw⟩,⟨Z,Z,Z,Z,Z,tvA⟩⟩
        omega
      ·replace h66:=Qs h66
       refine gN Z Z Z Z<|gN Z Z Z Z<|gN Z Z Z Z<|gY Z Z Z<|st (Qq Z Z) Z<|st (Qq Z Z) Z<|Wn<|tN<|QX Z (Z)<|Qf<|tN<|Qa<|sm Z Z<|st (QE Z hB11 uz44 Z siz44) Z ?_
       replace hP:=hP.bel pq;clear pq;have hda:=Qli hP Qb (hT.bel bw) o (hok.bel bw) hKlt hot;rw [hvp] at hda
       refine sc _ Tryz.func8 Z Qo Z Z<|(hda).mono ?_
       rintro e_ w10 ⟨rfl,hP',hX⟩;refine cR ?_;have bq:=bchg bw hX (fun k hk=>hk);have zz10:=hX.size;clear hX hda bw;have bw:=bq;clear bq
       refine st (Jk Z) Z<|Wn<|tN<|QX Z (Z)<|Qf<|bN<|tN<|Qw<|sm Z Z<|st (Qn Z Z Qb) Z<|sa Z Z<|Wn<|tN ⟨_,_,?_,⟨i+1,Z,Z,(by first|exact hP'|exact hP.up),by omega,bw⟩,⟨Z,Z,Z,Z,Z,tvA⟩⟩
       omega
   ·replace h47:=Qs h47
    refine QQ<|tE<|tE<|bH<|tN<|Qa<|sm Z Z ?_
    obtain ⟨u,hu1,hu2⟩:=hP.used Qb;refine sc _ Tryz.func9 Z Qo Z Z (Q3 (hu1) fun w11 hb=>?_);have pq:=hb;replace bw:=Ql bw hb;have zz11:=hb.size;clear hb
    refine sm Z Z<|sc _ Tryz.func10 Z Qo Z Z (Q3 (hu2 _ pq) fun w12 hb=>?_)
    replace pq:=Ql pq hb;replace bw:=Ql bw hb;have zz12:=hb.size;clear hb
    refine st (QL Z Z) Z<|UP Z (decide_eq_true Z) Z<|gY Z Z Z<|sc _ fz7 Z Qo Z Z (Q3 (UU _ ((hT.bel bw).to bw.size)) fun w13 hb=>?_)
    replace pq:=Ql pq hb;replace bw:=Ql bw hb;have zz13:=hb.size;clear hb
    refine st (Qm Z Z) Z<|sa Z Z<|Wn<|tN ?_
    replace hP:=hP.bel pq;clear pq;refine Qg ?_;exact (rT Z Z ⟨Z,bw⟩).1
 ·skip
  refine Qj (args:=[.int .i64 lim,.slice a l.length c]) 84 Tryz.func3 Z Z Z<|Qt [(0,.int .i64 lim),(1,.slice a l.length c)] ?_ ⟨Z,Z,tvA⟩
  have bw:=Below.refl w.heap.size w
  refine Qa<|sa Z Z<|Wn<|tN<|Qa<|sm Z Z<|sc _ fz4 Z Qo Z Z (Q3 (New_bad lim _ hlim) fun w1 hb=>?_)
  replace bw:=Ql bw hb;have zz1:=hb.size;clear hb
  refine sm Z Z<|st (Qu Z Z) Z<|st (Qu Z Z) Z<|sa Z Z<|sa Z Z<|Wn<|tN<|Qa<|sm Z Z<|sc _ fz5 Z Qo Z Z (Q3 (Qxb lim _ hlim) fun w2 hb=>?_)
  replace bw:=Ql bw hb;have zz2:=hb.size;clear hb
  refine sm Z Z<|st (Qu Z Z) Z<|st (Qu Z Z) Z<|sa Z Z<|sa Z Z<|Wn<|tN<|Qe<|Qa<|sm Z Z<|sm Z Z<|st (QC Z Z) Z<|sbN Z (Z) Z<|gY Z Z Z<|sm Z Z<|gY Z Z Z<|sc _ Tryz.func6 Z Qo Z Z (Q3 (Qge _ l _ (hO.bel bw)) fun w3 hb=>?_)
  replace bw:=Ql bw hb;have zz3:=hb.size;clear hb
  refine gY Z Z Z<|st (Jk Z) Z<|st (Qq Z Z) Z<|sb Z Z (fun h30=>?_) (fun h30=>?_)
  ·replace h30:=Qs h30
   refine gN Z Z Z Z<|gN Z Z Z Z<|st (Qm Z Z) Z<|Wn<|tN<|QO Z (Z)<|Qa<|sm Z Z<|sm Z Z<|st (QL Z Z) Z<|UP Z (Z) Z<|gY Z Z Z<|sc _ fz7 Z Qo Z Z (Q3 (UU _ ((hT.bel bw).to bw.size)) fun w4 hb=>?_)
   replace bw:=Ql bw hb;have zz4:=hb.size;clear hb
   refine st (Qm Z Z) Z<|sa Z Z<|Wn<|tN<|Qg<|tR ?_
   exact (rT Z Z ⟨Z,bw⟩).1
  ·replace h30:=Qs h30
   refine gY Z Z Z<|sm Z Z<|gY Z Z Z<|st (QC Z Z) Z<|st (Qq Z Z) Z<|Wn<|tN<|QO Z (Z)<|Qa<|sm Z Z<|sm Z Z<|st (QL Z Z) Z<|UP Z (Z) Z<|gY Z Z Z<|sc _ fz7 Z Qo Z Z (Q3 (UU _ ((hT.bel bw).to bw.size)) fun w5 hb=>?_)
   replace bw:=Ql bw hb;have zz5:=hb.size;clear hb
   refine st (Qm Z Z) Z<|sa Z Z<|Wn<|tN<|Qg<|tR ?_
   exact (rT Z Z ⟨Z,bw⟩).1
end
section
open Go.ChangeShapes Go.WideShapes Go.ChangeAt Go.RowKit Sha Go.Shelf
def kInts:List Int:=[1116352408,1899447441,3049323471,3921009573,961987163,1508970993,2453635748,2870763221,3624381080,310598401,607225278,1426881987,1925078388,2162078206,2614888103,3248222580,3835390401,4022224774,264347078,604807628,770255983,1249150122,1555081692,1996064986,2554220882,2821834349,2952996808,3210313671,3336571891,3584528711,113926993,338241895,666307205,773529912,1294757372,1396182291,1695183700,1986661051,2177026350,2456956037,2730485921,2820302411,3259730800,3345764771,3516065817,3600352804,4094571909,275423344,430227734,506948616,659060556,883997877,958139571,1322822218,1537002063,1747873779,1955562222,2024104815,2227730452,2361852424,2428436474,2756734187,3204031479,3329325298]
def bInts:List Int:=[1779033703,3144134277,1013904242,2773480762,1359893119,2600822924,528734635,1541459225]
def pInts:List Int:=[1,10,100,1000,10000,100000,1000000,10000000,100000000,1000000000,10000000000,100000000000,1000000000000,10000000000000,100000000000000,1000000000000000,10000000000000000,100000000000000000,1000000000000000000,10000000000000000000]
theorem gK : Tryz.prog.globalNamed "armarium/sha.k" = some 1 := by kernel_rfl
theorem gKt:(Tryz.prog.globals[1]?).map (·.type)=some 186:=by kernel_rfl
theorem gB : Tryz.prog.globalNamed "armarium/sha.begin" = some 0 := by kernel_rfl
theorem gBt:(Tryz.prog.globals[0]?).map (·.type)=some 146:=by kernel_rfl
theorem gPt:(Tryz.prog.globals[2]?).map (·.type)=some 266:=by kernel_rfl
theorem tabs_of_laid {W : World} (h : laidMetH Tryz.prog [("math/bits.deBruijn32tab", Rows.laid_math_bits_deBruijn32tab), ("math/bits.deBruijn64tab", Rows.laid_math_bits_deBruijn64tab), ("internal/strconv.uint64pow10", Rows.laid_internal_strconv_uint64pow10), ("unicode/utf8.acceptRanges", Rows.laid_unicode_utf8_acceptRanges), ("armarium/sha.k", Rows.laid_armarium_sha_k), ("armarium/sha.begin", Rows.laid_armarium_sha_begin), ("unicode/utf8.first", Rows.laid_unicode_utf8_first)] W) : PTabs W.heap.size W := by
 have h1 : Lib.TabIs Tryz.prog W "armarium/sha.k" .u32 kInts := Lib.tabIs_of_head (rest := [("armarium/sha.begin", Rows.laid_armarium_sha_begin), ("unicode/utf8.first", Rows.laid_unicode_utf8_first)]) gK gKt Tryz.underlying186 uz143 Qo Qo (laidMet.tail (laidMet.tail (laidMet.tail (laidMet.tail h))))
 have h2 : Lib.TabIs Tryz.prog W "armarium/sha.begin" .u32 bInts := Lib.tabIs_of_head (rest := [("unicode/utf8.first", Rows.laid_unicode_utf8_first)]) gB gBt Tryz.underlying146 uz143 Qo Qo (laidMet.tail (laidMet.tail (laidMet.tail (laidMet.tail (laidMet.tail h)))))
 have h3 : Lib.TabIs Tryz.prog W "internal/strconv.uint64pow10" .u64 pInts := Lib.tabIs_of_head (rest := [("unicode/utf8.acceptRanges", Rows.laid_unicode_utf8_acceptRanges), ("armarium/sha.k", Rows.laid_armarium_sha_k), ("armarium/sha.begin", Rows.laid_armarium_sha_begin), ("unicode/utf8.first", Rows.laid_unicode_utf8_first)]) gPow gPt Tryz.underlying266 uz151 Qo Qo (laidMet.tail (laidMet.tail h))
 have hk:∀ j,j<64→W.cell? ⟨1,j,none⟩=some (.int .u32 (kTab.getD j 0).toNat):=fun j hj=>by
  rw [h1.cell gK j hj]
  have e:∀ j:Fin 64,kInts.getD j.val 0=((kTab.getD j.val 0).toNat:Int):=by decide +kernel
  rw [e ⟨j,hj⟩]
 have hb:∀ j,W.cell? ⟨0,j,none⟩=(Kw begin_)[j]?:=fun j=>by
  have:=World.var?_cell gB h2 j
  rw [this]
  rfl
 have hp:PowTab W:=by
  have e:pInts=Lib.pow10Tab:=by decide +kernel
  rw [e] at h3;exact h3
 have l1:=World.block_lt_of_cell? W ⟨1,0,none⟩ (hk 0 Qb);have l2:=World.block_lt_of_cell? W ⟨0,0,none⟩ ((hb 0).trans rfl)
 have l3:2<W.heap.size:=by
  have:=h3.cell gPow 0 QF
  exact World.block_lt_of_cell? W ⟨2,0,none⟩ this
 exact ⟨⟨hk,hb,l1,l2⟩,hp,l1,l2,l3⟩
noncomputable def laidWorld (os:Os):World:={ World.holding Tryz.prog os ⟨#[],#[],[]⟩ with heap:=((((((((World.holding Tryz.prog os ⟨#[],#[],[]⟩).heap.modify 6 (Vp (([0,1,28,2,29,14,24,3,30,22,20,15,25,17,4,8,31,27,13,23,21,19,16,7,26,12,18,6,11,5,10,9]:List Int).map fun z=>Value.int .u8 z).toArray)).modify 7 (Vp (([0,1,56,2,57,49,28,3,61,58,42,50,38,29,17,4,62,47,59,36,45,43,51,22,53,39,33,30,24,18,12,5,63,55,48,27,60,41,37,16,46,35,44,21,52,32,23,11,54,26,40,15,34,20,31,10,25,14,19,9,13,8,7,6]:List Int).map fun z=>Value.int .u8 z).toArray)).modify 2 (Vp (pInts.map fun z=>Value.int .u64 z).toArray)).modify 4 (Vp ((List.range 16).flatMap fun i=>[Value.int .u8 (Lib.accLo i),Value.int .u8 (Lib.accHi i)]).toArray)).modify 1 (Vp (kInts.map fun z=>Value.int .u32 z).toArray)).modify 0 (Vp (bInts.map fun z=>Value.int .u32 z).toArray)).modify 3 (Vp (Lib.firstTab.map fun z=>Value.int .u8 z).toArray)) }
end
end Go.Proofs.YtgiccohjijhfkaaGreatDoor
