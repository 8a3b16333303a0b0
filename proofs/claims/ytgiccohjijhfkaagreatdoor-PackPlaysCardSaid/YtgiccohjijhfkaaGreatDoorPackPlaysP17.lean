/- Part 17. -/
import Derived.Test.YtgiccohjijhfkaaGreatDoorPackPlaysP16
set_option maxRecDepth 100000
set_option maxHeartbeats 4000000
namespace Go.Proofs.YtgiccohjijhfkaaGreatDoor
section
open Go.RowKit Sha
def XL (B gs gd gr c:Nat) (w:World) (e:Ending) (w':World):Prop :=
  e=.returned (.bool true)∧(∃ D' W' P' pw' pp' is' n' uL' cl' fL' fg' fw' pn' po',PX B w' gs gd gr D' D' W' W' P' pw' pp' is' n' uL' cl' fL' fg' fw' pn' po' none none [] []∧PlG (c+1) D' W')∧Chg (fun k=>B≤k) w w'
theorem padd_eZ {D:DiskD} {x:Wri} {d:List UInt8} (h0:(QD D x d).1.2≠0) (h1:(QD D x d).1.2≠16):(QD D x d).1.1=eZ:=by
 unfold QD at h0 h1 ⊢
 split
 ·rfl
 rename_i a1
 rw [if_neg a1] at h0 h1
 split
 ·rfl
 rename_i a2
 rw [if_neg a2] at h0 h1
 split
 ·rename_i e he
  rw [he] at h1;exact absurd Z h1
 rename_i he
 rw [he] at h0;simp only at h0
 split
 ·rfl
 rename_i a3
 rw [if_neg a3] at h0
 split
 ·rfl
 rename_i a4
 rw [if_neg a4] at h0;exact absurd Z h0
section
variable {B gs gd gr c:Nat} {w:World} {D:DiskD} {W:Option Wri} {P:Option (Int×Scn)} {pw pp:Option Addr} {is cl po fw:Bool} {n pn fg:Int} {uL fL:Value}
theorem PX.done {w0:World} {L M:List Nat} (h:PX B w gs gd gr D D W W P pw pp is n uL cl fL fg fw pn po none none L M) (hG:PlG (c+1) D W) (hcw:Chg (fun k=>B≤k) w0 w):XL B gs gd gr c w0 (.returned (.bool true)) w :=
 ⟨rfl,⟨_,_,_,_,_,_,_,_,_,_,_,_,_,_,h.drop,hG⟩,hcw⟩
theorem c3 {n:Int} (h:Blk w gs 41 (ZW gd gr pw pp is n uL cl fL fg fw pn po)):w.cell? ⟨gs,3,none⟩=some (.pointer (some ⟨gr,0,none⟩)):=by rw [h.cell]; rfl
theorem Vc (h:PX B w gs gd gr D D W W P pw pp is n uL cl fL fg fw pn po none none [] []) (hG:PlG c D W) (hc:c≤50) (hT:PTabs B w) (ask m at_:Int) (d:List UInt8) (pa:Option Addr) (pl pc:Nat) (hd15:d.length≤1500) :
  Calls Tryz.prog 15 #[.pointer (some ⟨gs,0,none⟩),.agg #[.int .i64 ask,.int .i64 m,.int .i64 at_,Qv d,.slice pa pl pc]] w (XL B gs gd gr c w):=by
 have hBq:=h.hB;have hzE:eZ.cells.toArray.size=35:=Ent.size eZ32;have hfew:=hG.few
 refine Qj (args:=[.pointer (some ⟨gs,0,none⟩),.agg #[.int .i64 ask,.int .i64 m,.int .i64 at_,Qv d,.slice pa pl pc]]) 174 Tryz.func15 Z Z Z<|Qt [(0,.pointer (some ⟨gs,0,none⟩)),(1,.agg #[.int .i64 ask,.int .i64 m,.int .i64 at_,Qv d,.slice pa pl pc])] ?_ ⟨Z,Z,tvA⟩
 have hcw:=Chg.refl (fun k=>B≤k) w
 refine Qa<|J1 Z Z (fun g3 w1 hB3 hg3 hb hl3=>?_)
 replace hcw:=hcw.then_below hb;replace h:=h.add hb [g3] (fun g_ hg_=>by rw [List.mem_singleton.1 hg_]; exact ⟨hg3,hl3⟩);have hoB3:=(h.mem (g:=g3) Q0).1;replace hT:=hT.bel hb;have zz1:=hb.size;clear hb
 refine sa Z Z<|Wn<|tN<|Qe<|Qa<|st (Qk Vx Z) Z<|st (Qi Z hB3 uz3 Z Z) Z<|Wn<|tN<|Qp<|Qa<|st (QL Z Z) Z<|sa Z Z<|Wn<|tN<|Qx Z (fun h23=>?_) (fun h23=>?_)
 ·replace h23:=Qs h23;refine QS (fun G=>Blk G gs 41 (ZW gd gr pw pp is n uL cl fL fg fw pn po)∧Blk G g3 44 #[.int .i64 ask,.int .i64 m,.int .i64 at_,Qv d,.slice pa pl pc]) [0,1,2,3,4,5,6,7,8,9,10,11] [Y,Y,Y,Y,Y,Y,false,Y,Y,Y,Y,Y] Qo Qo (⟨h.blk.drew,hB3.drew⟩) ?_;obtain ⟨w2,hw_,hb⟩:=QN w1;rw [← hw_];clear hw_;have hS:=hb;replace hcw:=hcw.then_below hb;replace h:=h.bel hb;replace hT:=hT.bel hb;replace hB3:=hB3.bel hb;have zz2:=hb.size;clear hb
  refine oY Z (fun G U=>(Qd Z)) Z<|oY Z (fun G U=>(Qc Z)) Z<|oY Z (fun G U=>(Qk XC Z)) Z<|oY Z (fun G U=>(Qi Z U.1 uz23 Z Z)) Z<|oY Z (fun G U=>(Qk J4 Z)) Z<|oY Z (fun G U=>(Qi Z U.2 uz3 Z Z)) Z<|oL Z (fun Q_ hQ_ hP_=>(sc _ Tryz.func11 Z Qo Z Z ((xbegin h hT hcw (70000*c) m hG.good Qb).mono ?_)))
  rintro e_ w3 ⟨p,rfl,hpe,h,hT,hcw,zz3,hX⟩;refine cR ?_
  first|replace hB3:=hB3.chg hX (fun e=>e.2.1 Q0)|skip
  clear hX
  refine Wn<|hQ_ _ _ (⟨h.blk,hB3⟩) ?_
  clear hQ_ hP_ Q_
  refine oY Z (fun G U=>(Qd Z)) Z<|oY Z (fun G U=>(Qu Z Z)) Z<|oY Z (fun G U=>(Qu Z Z)) Z<|oY Z (fun G U=>(Qy Z)) Z<|oY Z (fun G U=>(Qy Z)) Z<|oN<|nN<|Y8 (fun G=>Blk G gs 41 (ZW gd gr pw pp is n uL cl fL fg fw pn po)∧Blk G g3 44 #[.int .i64 ask,.int .i64 m,.int .i64 at_,Qv d,.slice pa pl pc]) (.yes 0 (.yes 1 (.yes 2 (.yes 3 (.yes 4 (.yes 5 (.pick (.alt 6 (.yes 7 (.yes 8 (.yes 9 (.pick (.alt 10 (.pick (.alt 11 (.yes 12 (.nil)) (.no))) (.no)))))) (.alt 10 (.pick (.alt 6 (.yes 7 (.yes 8 (.yes 9 (.pick (.alt 11 (.yes 12 (.nil)) (.no)))))) (.no))) (.no)))))))))) Qo Qo (⟨h.blk.drew,hB3.drew⟩) ?_
  obtain ⟨w4,hw_,hb⟩:=QN w3;rw [← hw_];clear hw_;have hS:=hb;replace hcw:=hcw.then_below hb;replace h:=h.bel hb;replace hT:=hT.bel hb;replace hB3:=hB3.bel hb;have zz4:=hb.size;clear hb
  refine uY Z (fun G U=>(Qd Z)) Z<|uY Z (fun G U=>(Qc Z)) Z<|uY Z (fun G U=>(Qk ZO Z)) Z<|uY Z (fun G U=>(Qi Z U.1 uz27 Z Z)) Z<|uY Z (fun G U=>(Qk J4 Z)) Z<|uY Z (fun G U=>(Qi Z U.2 uz3 Z Z)) Z<|uP<|uA Z (fun Q_ hQ_ hP_=>?_)<|uA Z (fun Q_ hQ_ hP_=>?_) u0
  ·refine sc _ Tryz.func37 Z Qo Z Z<|(Qpj h hT hcw (70000*c) m hG.good Qb Qb).mono ?_
   rintro e_ w5 ⟨rfl,h,hT,hcw,zz5,hX⟩;refine cR ?_
   first|replace hB3:=hB3.chg hX (fun e=>e.2.1 Q0)|skip
   clear hX
   refine Wn<|hQ_ _ _ (⟨h.blk,hB3⟩) ?_
   clear hQ_ hP_ Q_
   refine uY Z (fun G U=>(Qd Z)) Z<|uY Z (fun G U=>(Qu Z Z)) Z<|uY Z (fun G U=>(Qu Z Z)) Z<|uP<|uA Z (fun Q_ hQ_ hP_=>?_) u0
   refine Jm inf37 Z (fun g7 w6 hB7 hg7 hb hl7=>?_);replace hcw:=hcw.then_below hb;replace h:=h.add hb [g7] (fun g_ hg_=>by rw [List.mem_singleton.1 hg_]; exact ⟨hg7,hl7⟩);have hoB7:=(h.mem (g:=g7) Q0).1;replace hT:=hT.bel hb;replace hB3:=hB3.bel hb;have zz6:=hb.size;clear hb
   refine Wn<|hQ_ _ _ (⟨h.blk,hB3⟩) ?_
   clear hQ_ hP_ Q_
   refine uP<|uA Z (fun Q_ hQ_ hP_=>?_) u0
   refine QY Z Z hB7 siz37 Z Z (fun w7 bB cC=>?_);replace hB7:=bB;clear bB;replace h:=h.loc Q0 cC;replace hT:=hT.chg cC Z5;replace hB3:=hB3.chg cC Z5;replace hcw:=hcw.next cC KO;have zz7:=cC.size;clear cC
   refine Wn<|hQ_ _ _ (⟨h.blk,hB3⟩) ?_
   clear hQ_ hP_ Q_
   refine uY Z (fun G U=>(Qy Z)) Z<|uN<|nN<|Qa<|sm Z Z<|sm Z Z<|st (Qc Z) Z<|st (Qk Yr Z) Z<|KL Z Z h.blk siz33 Z (by unfold ZW; simp) (fun w8 bB cC=>?_)
   have hgs_:=h.gs_;replace h:=h.recw cC bB;replace hT:=hT.chg cC (fun k hk=>by have h1:k=gs:=hk; subst h1; exact hgs_.1);replace hB3:=hB3.chg cC (fun e=>hgs_.2.1 (by have e2:g3=gs:=e; rw [← e2]; simp));replace hB7:=hB7.chg cC (fun e=>hgs_.2.1 (by have e2:g7=gs:=e; rw [← e2]; simp));replace hcw:=hcw.next cC (fun i hi=>.inl (by have h1:i=gs:=hi; subst h1; exact hgs_.1));have zz8:=cC.size;clear bB cC
   refine Wn<|tN<|Qa<|sm Z Z<|st (QE Z hB7 uz37 Z siz37) Z<|st (Qc Z) Z<|st (Qk KG Z) Z<|ssBO (ZW gd gr p pp (decide ((Q2 D m).1=0)) (if (Q2 D m).1=0 then m else 0) (.slice none 0 0) false fL fg fw pn po) Z Z h.blk siz37 (by unfold ZW; simp) (by simp [Value.oneCell']) Z (fun w9 bB cC=>?_)
   have hgs_:=h.gs_
   replace h:=h.recx cC bB (V2:=if (Q2 D m).1=0 then some ⟨m,[],false⟩ else none) (fun q col=>by
    by_cases h0:(Q2 D m).1=0
    ·rw [if_pos h0,if_pos h0,decide_eq_true h0];exact ⟨Z,Z,Z,Row.nil _ _ _,fun k hk=>by simp [Value.ownBlock] at hk⟩
    ·rw [if_neg h0,if_neg h0,decide_eq_false h0]
     exact ⟨Z,Z⟩)
   replace hT:=hT.chg cC (fun k hk=>by have h1:k=gs:=hk; subst h1; exact hgs_.1);replace hB3:=hB3.chg cC (fun e=>hgs_.2.1 (by have e2:g3=gs:=e; rw [← e2]; simp));replace hB7:=hB7.chg cC (fun e=>hgs_.2.1 (by have e2:g7=gs:=e; rw [← e2]; simp));replace hcw:=hcw.next cC (fun i hi=>.inl (by have h1:i=gs:=hi; subst h1; exact hgs_.1));have zz9:=cC.size;clear bB cC
   refine Wn<|tN<|Qa<|sm Z Z<|sm Z Z<|st (QL Z Z) Z<|UP Z (decide_eq_true Z) Z<|gY Z Z Z<|sm Z Z<|gY Z Z Z<|st (X.wNe Z) Z<|gY Z Z Z<|st (Qk Qdo Z) Z<|gY Z Z Z<|st (Qi Z hB7 uz4 Z Z) Z<|gY Z Z Z<|st (Qfz (c:=true) (.inl ⟨Z,by rw [hpe]; simp⟩) uz4 Z Z) Z ?_
   refine st (Qm Z Z) Z<|sa Z Z<|Wn<|tN<|Qg<|bR<|tR ?_
   exact (rT Z Z (h.done (hG.begin m) hcw)).1
  ·refine Jm inf37 Z (fun g7 w10 hB7 hg7 hb hl7=>?_);replace hcw:=hcw.then_below hb;replace h:=h.add hb [g7] (fun g_ hg_=>by rw [List.mem_singleton.1 hg_]; exact ⟨hg7,hl7⟩);have hoB7:=(h.mem (g:=g7) Q0).1;replace hT:=hT.bel hb;replace hB3:=hB3.bel hb;have zz10:=hb.size;clear hb
   refine Wn<|hQ_ _ _ (⟨h.blk,hB3⟩) ?_
   clear hQ_ hP_ Q_
   refine uP<|uA Z (fun Q_ hQ_ hP_=>?_) u0
   refine sc _ Tryz.func37 Z Qo Z Z<|(Qpj h hT hcw (70000*c) m hG.good Qb Qb).mono ?_
   rintro e_ w11 ⟨rfl,h,hT,hcw,zz11,hX⟩;refine cR ?_
   first|replace hB3:=hB3.chg hX (fun e=>e.2.1 Q0)|skip
   first|replace hB7:=hB7.chg hX (fun e=>e.2.1 Q0)|skip
   clear hX
   refine Wn<|hQ_ _ _ (⟨h.blk,hB3⟩) ?_
   clear hQ_ hP_ Q_
   refine uY Z (fun G U=>(Qd Z)) Z<|uY Z (fun G U=>(Qu Z Z)) Z<|uY Z (fun G U=>(Qu Z Z)) Z<|uP<|uA Z (fun Q_ hQ_ hP_=>?_) u0
   refine QY Z Z hB7 siz37 Z Z (fun w12 bB cC=>?_);replace hB7:=bB;clear bB;replace h:=h.loc Q0 cC;replace hT:=hT.chg cC Z5;replace hB3:=hB3.chg cC Z5;replace hcw:=hcw.next cC KO;have zz12:=cC.size;clear cC
   refine Wn<|hQ_ _ _ (⟨h.blk,hB3⟩) ?_
   clear hQ_ hP_ Q_
   refine uY Z (fun G U=>(Qy Z)) Z<|uN<|nN<|Qa<|sm Z Z<|sm Z Z<|st (Qc Z) Z<|st (Qk Yr Z) Z<|KL Z Z h.blk siz33 Z (by unfold ZW; simp) (fun w13 bB cC=>?_)
   have hgs_:=h.gs_;replace h:=h.recw cC bB;replace hT:=hT.chg cC (fun k hk=>by have h1:k=gs:=hk; subst h1; exact hgs_.1);replace hB3:=hB3.chg cC (fun e=>hgs_.2.1 (by have e2:g3=gs:=e; rw [← e2]; simp));replace hB7:=hB7.chg cC (fun e=>hgs_.2.1 (by have e2:g7=gs:=e; rw [← e2]; simp));replace hcw:=hcw.next cC (fun i hi=>.inl (by have h1:i=gs:=hi; subst h1; exact hgs_.1));have zz13:=cC.size;clear bB cC
   refine Wn<|tN<|Qa<|sm Z Z<|st (QE Z hB7 uz37 Z siz37) Z<|st (Qc Z) Z<|st (Qk KG Z) Z<|ssBO (ZW gd gr p pp (decide ((Q2 D m).1=0)) (if (Q2 D m).1=0 then m else 0) (.slice none 0 0) false fL fg fw pn po) Z Z h.blk siz37 (by unfold ZW; simp) (by simp [Value.oneCell']) Z (fun w14 bB cC=>?_)
   have hgs_:=h.gs_
   replace h:=h.recx cC bB (V2:=if (Q2 D m).1=0 then some ⟨m,[],false⟩ else none) (fun q col=>by
    by_cases h0:(Q2 D m).1=0
    ·rw [if_pos h0,if_pos h0,decide_eq_true h0];exact ⟨Z,Z,Z,Row.nil _ _ _,fun k hk=>by simp [Value.ownBlock] at hk⟩
    ·rw [if_neg h0,if_neg h0,decide_eq_false h0]
     exact ⟨Z,Z⟩)
   replace hT:=hT.chg cC (fun k hk=>by have h1:k=gs:=hk; subst h1; exact hgs_.1);replace hB3:=hB3.chg cC (fun e=>hgs_.2.1 (by have e2:g3=gs:=e; rw [← e2]; simp));replace hB7:=hB7.chg cC (fun e=>hgs_.2.1 (by have e2:g7=gs:=e; rw [← e2]; simp));replace hcw:=hcw.next cC (fun i hi=>.inl (by have h1:i=gs:=hi; subst h1; exact hgs_.1));have zz14:=cC.size;clear bB cC
   refine Wn<|tN<|Qa<|sm Z Z<|sm Z Z<|st (QL Z Z) Z<|UP Z (decide_eq_true Z) Z<|gY Z Z Z<|sm Z Z<|gY Z Z Z<|st (X.wNe Z) Z<|gY Z Z Z<|st (Qk Qdo Z) Z<|gY Z Z Z<|st (Qi Z hB7 uz4 Z Z) Z<|gY Z Z Z<|st (Qfz (c:=true) (.inl ⟨Z,by rw [hpe]; simp⟩) uz4 Z Z) Z ?_
   refine st (Qm Z Z) Z<|sa Z Z<|Wn<|tN<|Qg<|bR<|tR ?_
   exact (rT Z Z (h.done (hG.begin m) hcw)).1
 ·replace h23:=Qs h23
  refine Qa<|st (QL Z Z) Z<|sa Z Z<|Wn<|tN<|Qx Z (fun h63=>?_) (fun h63=>?_)
  ·replace h63:=Qs h63
   refine Qe<|Qa<|sm Z Z<|st (Qc Z) Z<|st (Qk KG Z) Z<|st (Qk Qdo Z) Z<|st (Qi Z h.blk uz4 Z Z) Z<|st (Jk Z) Z<|Wn<|tN<|Qx Z (fun h70=>?_) (fun h70=>?_)
   ·replace h70:=Qs h70
    obtain rfl:W=none:=by cases W with|none=>rfl|some x=>have:=(h.vr.2 x rfl).1; rw [this] at h70; simp at h70
    obtain rfl:pw=none:=h.wn rfl;refine Y8 (fun G=>Blk G gs 41 (ZW gd gr none pp is n uL cl fL fg fw pn po)∧Blk G g3 44 #[.int .i64 ask,.int .i64 m,.int .i64 at_,Qv d,.slice pa pl pc]) (.yes 0 (.yes 1 (.yes 2 (.yes 3 (.yes 4 (.yes 5 (.pick (.alt 6 (.yes 7 (.yes 8 (.yes 9 (.pick (.alt 10 (.pick (.alt 11 (.yes 12 (.nil)) (.no))) (.no)))))) (.alt 10 (.pick (.alt 6 (.yes 7 (.yes 8 (.yes 9 (.pick (.alt 11 (.yes 12 (.nil)) (.no)))))) (.no))) (.no)))))))))) Qo Qo (⟨h.blk.drew,hB3.drew⟩) ?_;obtain ⟨w15,hw_,hb⟩:=QN w1;rw [← hw_];clear hw_;have hS:=hb;replace hcw:=hcw.then_below hb;replace h:=h.bel hb;replace hT:=hT.bel hb;replace hB3:=hB3.bel hb;have zz15:=hb.size;clear hb
    refine uY Z (fun G U=>(Qd Z)) Z<|uY Z (fun G U=>(Qc Z)) Z<|uY Z (fun G U=>(Qk Yr Z)) Z<|uY Z (fun G U=>(Qi Z U.1 uz33 Z Z)) Z<|uY Z (fun G U=>(Qk Vw Z)) Z<|uY Z (fun G U=>(Qi Z U.2 uz9 Z Z)) Z<|uP<|uA Z (fun Q_ hQ_ hP_=>?_)<|uA Z (fun Q_ hQ_ hP_=>?_) u0
    ·refine sc _ fz12 Z Qo Z Z (Q3 (Qjx _ d) fun w16 hb=>?_);replace hcw:=hcw.then_below hb;replace h:=h.bel hb;replace hT:=hT.bel hb;replace hB3:=hB3.bel hb;have zz16:=hb.size;clear hb
     refine Wn<|hQ_ _ _ (⟨h.blk,hB3⟩) ?_
     clear hQ_ hP_ Q_
     refine uY Z (fun G U=>(Qd Z)) Z<|uY Z (fun G U=>(Qu Z Z)) Z<|uY Z (fun G U=>(Qu Z Z)) Z<|uP<|uA Z (fun Q_ hQ_ hP_=>?_) u0
     refine Jm inf59 Z (fun g9 w17 hB9 hg9 hb hl9=>?_);replace hcw:=hcw.then_below hb;replace h:=h.add hb [g9] (fun g_ hg_=>by rw [List.mem_singleton.1 hg_]; exact ⟨hg9,hl9⟩);have hoB9:=(h.mem (g:=g9) Q0).1;replace hT:=hT.bel hb;replace hB3:=hB3.bel hb;have zz17:=hb.size;clear hb
     refine Wn<|hQ_ _ _ (⟨h.blk,hB3⟩) ?_
     clear hQ_ hP_ Q_
     refine uP<|uA Z (fun Q_ hQ_ hP_=>?_) u0
     refine QY Z Z hB9 (by rw [hzE]; exact siz59) (by rw [hzE]; rfl) (Ent.cells_one eZ) (fun w18 bB cC=>?_);replace hB9:=bB;clear bB;replace h:=h.loc Q0 cC;replace hT:=hT.chg cC Z5;replace hB3:=hB3.chg cC Z5;replace hcw:=hcw.next cC KO;have zz18:=cC.size;clear cC
     refine Wn<|hQ_ _ _ (⟨h.blk,hB3⟩) ?_
     clear hQ_ hP_ Q_
     refine uY Z (fun G U=>(Qy Z)) Z<|uN<|nN<|Qa<|sm Z Z<|st (QL Z Z) Z<|sa Z Z<|Wn<|tN<|Qg<|tR<|bR<|tR ?_
     exact (rT Z Z (h.done hG.mono hcw)).1
    ·refine Jm inf59 Z (fun g9 w19 hB9 hg9 hb hl9=>?_);replace hcw:=hcw.then_below hb;replace h:=h.add hb [g9] (fun g_ hg_=>by rw [List.mem_singleton.1 hg_]; exact ⟨hg9,hl9⟩);have hoB9:=(h.mem (g:=g9) Q0).1;replace hT:=hT.bel hb;replace hB3:=hB3.bel hb;have zz19:=hb.size;clear hb
     refine Wn<|hQ_ _ _ (⟨h.blk,hB3⟩) ?_
     clear hQ_ hP_ Q_
     refine uP<|uA Z (fun Q_ hQ_ hP_=>?_) u0
     refine sc _ fz12 Z Qo Z Z (Q3 (Qjx _ d) fun w20 hb=>?_);replace hcw:=hcw.then_below hb;replace h:=h.bel hb;replace hT:=hT.bel hb;replace hB3:=hB3.bel hb;replace hB9:=hB9.bel hb;have zz20:=hb.size;clear hb
     refine Wn<|hQ_ _ _ (⟨h.blk,hB3⟩) ?_
     clear hQ_ hP_ Q_
     refine uY Z (fun G U=>(Qd Z)) Z<|uY Z (fun G U=>(Qu Z Z)) Z<|uY Z (fun G U=>(Qu Z Z)) Z<|uP<|uA Z (fun Q_ hQ_ hP_=>?_) u0
     refine QY Z Z hB9 (by rw [hzE]; exact siz59) (by rw [hzE]; rfl) (Ent.cells_one eZ) (fun w21 bB cC=>?_);replace hB9:=bB;clear bB;replace h:=h.loc Q0 cC;replace hT:=hT.chg cC Z5;replace hB3:=hB3.chg cC Z5;replace hcw:=hcw.next cC KO;have zz21:=cC.size;clear cC
     refine Wn<|hQ_ _ _ (⟨h.blk,hB3⟩) ?_
     clear hQ_ hP_ Q_
     refine uY Z (fun G U=>(Qy Z)) Z<|uN<|nN<|Qa<|sm Z Z<|st (QL Z Z) Z<|sa Z Z<|Wn<|tN<|Qg<|tR<|bR<|tR ?_
     exact (rT Z Z (h.done hG.mono hcw)).1
   ·replace h70:=Qs h70
    obtain ⟨x,rfl⟩:∃ x,W=some x:=by cases W with|none=>rw [(h.vr.1 rfl).1] at h70; exact absurd h70 Q0|some x=>exact ⟨x,rfl⟩
    obtain ⟨rfl,rfl,rfl,hLr⟩:=h.vr.2 x rfl;obtain ⟨gw,gx,gm,v,S,rfl,hA,_⟩:=h.wri;obtain ⟨hxl,hxr⟩:=hG.wl x rfl;have hs32:Yt x.l:=hA.scn.s32;have hGa:=hG.add d;have hpa:=padd_eZ (D:=D) (x:=x) (d:=d);have hp32:=Qmw (D:=D) (d:=d) hs32;have hE35:(QD D x d).1.1.cells.toArray.size=35:=Ent.size hp32.1;clear hLr hA
    refine Qf<|tN<|Y8 (fun G=>Blk G gs 41 (ZW gd gr (some ⟨gw,0,none⟩) pp true x.n uL x.closed fL fg fw pn po)∧Blk G g3 44 #[.int .i64 ask,.int .i64 m,.int .i64 at_,Qv d,.slice pa pl pc]) (.yes 0 (.yes 1 (.yes 2 (.yes 3 (.yes 4 (.yes 5 (.pick (.alt 6 (.yes 7 (.yes 8 (.yes 9 (.pick (.alt 10 (.pick (.alt 11 (.yes 12 (.nil)) (.no))) (.no)))))) (.alt 10 (.pick (.alt 6 (.yes 7 (.yes 8 (.yes 9 (.pick (.alt 11 (.yes 12 (.nil)) (.no)))))) (.no))) (.no)))))))))) Qo Qo (⟨h.blk.drew,hB3.drew⟩) ?_
    obtain ⟨w22,hw_,hb⟩:=QN w1;rw [← hw_];clear hw_;have hS:=hb;replace hcw:=hcw.then_below hb;replace h:=h.bel hb;replace hT:=hT.bel hb;replace hB3:=hB3.bel hb;have zz22:=hb.size;clear hb
    refine uY Z (fun G U=>(Qd Z)) Z<|uY Z (fun G U=>(Qc Z)) Z<|uY Z (fun G U=>(Qk Yr Z)) Z<|uY Z (fun G U=>(Qi Z U.1 uz33 Z Z)) Z<|uY Z (fun G U=>(Qk Vw Z)) Z<|uY Z (fun G U=>(Qi Z U.2 uz9 Z Z)) Z<|uP<|uA Z (fun Q_ hQ_ hP_=>?_)<|uA Z (fun Q_ hQ_ hP_=>?_) u0
    ·refine sc _ fz12 Z Qo Z Z<|(xadd h hT hcw (70000*c) d hG.good Qb Qb Qb).mono ?_
     rintro e_ w23 ⟨rfl,h,hT,hcw,zz23,hX⟩;refine cR ?_
     first|replace hB3:=hB3.chg hX (fun e=>e.2.1 Q0)|skip
     first|replace hB7:=hB7.chg hX (fun e=>e.2.1 Q0)|skip
     first|replace hB9:=hB9.chg hX (fun e=>e.2.1 Q0)|skip
     clear hX
     refine Wn<|hQ_ _ _ (⟨h.blk,hB3⟩) ?_
     clear hQ_ hP_ Q_
     refine uY Z (fun G U=>(Qd Z)) Z<|uY Z (fun G U=>(Qu Z Z)) Z<|uY Z (fun G U=>(Qu Z Z)) Z<|uP<|uA Z (fun Q_ hQ_ hP_=>?_) u0
     refine Jm inf59 Z (fun g11 w24 hB11 hg11 hb hl11=>?_);replace hcw:=hcw.then_below hb;replace h:=h.add hb [g11] (fun g_ hg_=>by rw [List.mem_singleton.1 hg_]; exact ⟨hg11,hl11⟩);have hoB11:=(h.mem (g:=g11) Q0).1;replace hT:=hT.bel hb;replace hB3:=hB3.bel hb;have zz24:=hb.size;clear hb
     refine Wn<|hQ_ _ _ (⟨h.blk,hB3⟩) ?_
     clear hQ_ hP_ Q_
     refine uP<|uA Z (fun Q_ hQ_ hP_=>?_) u0
     refine QY Z Z hB11 (by rw [hE35]; exact siz59) (by rw [hE35]; rfl) (Ent.cells_one _) (fun w25 bB cC=>?_);replace hB11:=bB;clear bB;replace h:=h.loc Q0 cC;replace hT:=hT.chg cC Z5;replace hB3:=hB3.chg cC Z5;replace hcw:=hcw.next cC KO;have zz25:=cC.size;clear cC
     refine Wn<|hQ_ _ _ (⟨h.blk,hB3⟩) ?_
     clear hQ_ hP_ Q_
     refine uY Z (fun G U=>(Qy Z)) Z<|uN<|nN<|Y8 (fun G=>G.cell? ⟨gs,3,none⟩=some (.pointer (some ⟨gr,0,none⟩))∧Blk G g3 44 #[.int .i64 ask,.int .i64 m,.int .i64 at_,Qv d,.slice pa pl pc]) (.yes 0 (.yes 1 (.yes 2 (.yes 3 (.yes 4 (.yes 5 (.yes 6 (.yes 7 (.yes 8 (.pick (.alt 9 (.yes 10 (.yes 11 (.yes 12 (.pick (.alt 13 (.pick (.alt 14 (.yes 15 (.nil)) (.no))) (.no)))))) (.alt 13 (.pick (.alt 9 (.yes 10 (.yes 11 (.yes 12 (.pick (.alt 14 (.yes 15 (.nil)) (.no)))))) (.no))) (.no))))))))))))) Qo Qo (⟨c3 h.blk.drew,hB3.drew⟩) ?_
     obtain ⟨w26,hw_,hb⟩:=QN w25;rw [← hw_];clear hw_;have hS:=hb;replace hcw:=hcw.then_below hb;replace h:=h.bel hb;replace hT:=hT.bel hb;replace hB3:=hB3.bel hb;replace hB11:=hB11.bel hb;have zz26:=hb.size;clear hb
     refine uY Z (fun G U=>(Qd Z)) Z<|uY Z (fun G U=>(Qc Z)) Z<|uY Z (fun G U=>(Qk KG Z)) Z<|uY Z (fun G U=>(Qd Z)) Z<|uY Z (fun G U=>(Qc Z)) Z<|uY Z (fun G U=>(Qk ZO Z)) Z<|uY Z (fun G U=>(JS Z uz27 Z U.1)) Z<|uY Z (fun G U=>(Qk Vw Z)) Z<|uY Z (fun G U=>(Qi Z U.2 uz9 Z Z)) Z<|uP<|uA Z (fun Q_ hQ_ hP_=>?_)<|uA Z (fun Q_ hQ_ hP_=>?_) u0
     ·refine sc _ fz38 Z Qo Z Z<|(Qpk h hT hcw (70000*c) d hG.q hG.good Qb Qb Qb).mono ?_
      rintro e_ w27 ⟨en,rfl,hen,⟨uL2,h⟩,hT,hcw,zz27,hX⟩;refine cR ?_
      first|replace hB3:=hB3.chg hX (fun e=>e.2.1 Q0)|skip
      first|replace hB7:=hB7.chg hX (fun e=>e.2.1 Q0)|skip
      first|replace hB9:=hB9.chg hX (fun e=>e.2.1 Q0)|skip
      first|replace hB11:=hB11.chg hX (fun e=>e.2.1 Q0)|skip
      clear hX
      refine Wn<|hQ_ _ _ (⟨c3 h.blk,hB3⟩) ?_
      clear hQ_ hP_ Q_
      refine uY Z (fun G U=>(Qd Z)) Z<|uY Z (fun G U=>(Qu Z Z)) Z<|uY Z (fun G U=>(Qu Z Z)) Z<|uP<|uA Z (fun Q_ hQ_ hP_=>?_) u0
      refine Jm inf95 Z (fun g13 w28 hB13 hg13 hb hl13=>?_);replace hcw:=hcw.then_below hb;replace h:=h.add hb [g13] (fun g_ hg_=>by rw [List.mem_singleton.1 hg_]; exact ⟨hg13,hl13⟩);have hoB13:=(h.mem (g:=g13) Q0).1;replace hT:=hT.bel hb;replace hB3:=hB3.bel hb;replace hB11:=hB11.bel hb;have zz28:=hb.size;clear hb
      refine Wn<|hQ_ _ _ (⟨c3 h.blk,hB3⟩) ?_
      clear hQ_ hP_ Q_
      refine uP<|uA Z (fun Q_ hQ_ hP_=>?_) u0
      refine QY Z Z hB13 siz95 Z (YU en) (fun w29 bB cC=>?_);replace hB13:=bB;clear bB;replace h:=h.loc Q0 cC;replace hT:=hT.chg cC Z5;replace hB3:=hB3.chg cC Z5;replace hB11:=hB11.chg cC Z5;replace hcw:=hcw.next cC KO;have zz29:=cC.size;clear cC
      refine Wn<|hQ_ _ _ (⟨c3 h.blk,hB3⟩) ?_
      clear hQ_ hP_ Q_
      refine uY Z (fun G U=>(Qy Z)) Z<|uN<|nN<|QS (fun G=>Blk G gs 41 (ZW gd gr (some ⟨gw,0,none⟩) pp true (QD D x d).2.1.n uL2 (QD D x d).2.1.closed fL fg fw pn po)∧Blk G g11 59 (QD D x d).1.1.cells.toArray∧Blk G g13 95 (Jh en).toArray) [0,1,2,3,4,5,6,7,8,9,10,11,12,13,16,17,18,19,20,14,15,21,22,23,24] [Y,Y,Y,Y,Y,Y,Y,false,Y,Y,Y,Y,Y,Y,Y,Y,Y,Y,Y,false,false,false,false,Y,Y] Qo Qo (⟨h.blk.drew,hB11.drew,hB13.drew⟩) ?_
      obtain ⟨w30,hw_,hb⟩:=QN w29;rw [← hw_];clear hw_;have hS:=hb;replace hcw:=hcw.then_below hb;replace h:=h.bel hb;replace hT:=hT.bel hb;replace hB3:=hB3.bel hb;replace hB11:=hB11.bel hb;replace hB13:=hB13.bel hb;have zz30:=hb.size;clear hb
      refine oY Z (fun G U=>(Qd Z)) Z<|oY Z (fun G U=>(Qd Z)) Z<|oY Z (fun G U=>(QL Z Z)) Z<|oY Z (fun G U=>(Jf (c:=true) Z (decide_eq_true Z))) Z<|Q4 Z Z Z Z (fun G U=>(QE Z U.2.1 uz59 Z (by rw [hE35]; exact siz59))) Z ?_
      refine Q4 Z Z Z Z (fun G U=>(QE Z U.2.2 uz95 Z siz95)) Z<|Q4 Z Z Z Z (fun G U=>(Qd Z)) Z<|oL Z (fun Q_ hQ_ hP_=>(gY Z Z Z (sc _ fz39 Z Qo Z Z (Q3 (XY _ en _ _ hp32.1) fun w31 hb=>?_))))
      replace hcw:=hcw.then_below hb;replace h:=h.bel hb;replace hT:=hT.bel hb;replace hB3:=hB3.bel hb;replace hB11:=hB11.bel hb;replace hB13:=hB13.bel hb;have zz31:=hb.size;clear hb
      refine Wn<|hQ_ _ _ (⟨h.blk,hB11,hB13⟩) ?_
      clear hQ_ hP_ Q_;refine oY Z (fun G U=>(Qm Z Z)) Z ?_
      have h115:(if (QD D x d).1.2≠0∧(QD D x d).1.2≠16 then decide ((QD D x d).1.1=eZ) else decide ((QD D x d).1.1=en))=true:=by
       by_cases h0:(QD D x d).1.2=0∨(QD D x d).1.2=16
       ·rw [if_neg (by rintro ⟨a1,a2⟩; rcases h0 with e|e; exact a1 e; exact a2 e),hen h0]
        simp
       ·rw [if_pos ⟨fun e=>h0 (.inl e),fun e=>h0 (.inr e)⟩,hpa (fun e=>h0 (.inl e)) (fun e=>h0 (.inr e))]
        simp
      refine oY Z (fun G U=>(Jf (c:=true) Z (h115))) Z<|Q4 Z Z Z Z (fun G U=>(Qd Z)) Z<|Q4 Z Z Z Z (fun G U=>(Qc Z)) Z<|Q4 Z Z Z Z (fun G U=>(Qk Yr Z)) Z<|Q4 Z Z Z Z (fun G U=>(Qi Z U.1 uz33 Z Z)) Z<|Q4 Z Z Z Z (fun G U=>(Qd Z)) Z<|Q4 Z Z Z Z (fun G U=>(Qc Z)) Z<|Q4 Z Z Z Z (fun G U=>(Qk KG Z)) Z<|Q4 Z Z Z Z (fun G U=>(Qk Y1 Z)) Z<|Q4 Z Z Z Z (fun G U=>(Qi Z U.1 uz35 Z Z)) Z ?_
      obtain ⟨gw2,gx2,gm2,v2,S2,hgw,hA,_⟩:=h.wri
      obtain rfl:gw=gw2:=by injection hgw with e; injection e
      have hxl2:=(hGa.wl _ rfl).1;have h322:Yt (Jb (QD D x d).2.1.l).1:=Q5 hp32.2;have hml2:=JQ (QD D x d).2.1.l;refine oL Z (fun Q_ hQ_ hP_=>(gY Z Z Z (sc _ fz41 Z Qo Z Z ((YQ hA Qb).mono ?_))));rintro e_ w32 ⟨u,rfl,hE,hO,hb⟩;refine cR ?_;replace hcw:=hcw.then_below hb;replace h:=h.bel hb;replace hT:=hT.bel hb;replace hB3:=hB3.bel hb;replace hB11:=hB11.bel hb;replace hB13:=hB13.bel hb;have zz32:=hb.size;clear hb
      refine Wn<|hQ_ _ _ (⟨h.blk,hB11,hB13⟩) ?_
      clear hQ_ hP_ Q_;refine oL Z (fun Q_ hQ_ hP_=>(gY Z Z Z (sc _ fz42 Z Qo Z Z ((Zx _ _ _ hE h322 Qb).mono ?_))));rintro e_ w33 ⟨va,rfl,hRa,hOa,hb⟩;refine cR ?_;replace hcw:=hcw.then_below hb;replace h:=h.bel hb;replace hT:=hT.bel hb;replace hB3:=hB3.bel hb;replace hB11:=hB11.bel hb;replace hB13:=hB13.bel hb;replace hE:=hE.bel hb;have zz33:=hb.size;clear hb
      refine Wn<|hQ_ _ _ (⟨h.blk,hB11,hB13⟩) ?_
      clear hQ_ hP_ Q_;refine oL Z (fun Q_ hQ_ hP_=>(gY Z Z Z (sc _ fz43 Z Qo Z Z ((Z2 _ _ _ (h.vr.2 _ Z).2.2.2.reads Qb).mono ?_))));rintro e_ w34 ⟨vs,rfl,hRs,hb⟩;refine cR ?_;replace hcw:=hcw.then_below hb;replace h:=h.bel hb;replace hT:=hT.bel hb;replace hB3:=hB3.bel hb;replace hB11:=hB11.bel hb;replace hB13:=hB13.bel hb;replace hE:=hE.bel hb;replace hRa:=hRa.bel hb;have zz34:=hb.size;clear hb
      refine Wn<|hQ_ _ _ (⟨h.blk,hB11,hB13⟩) ?_
      clear hQ_ hP_ Q_;refine oL Z (fun Q_ hQ_ hP_=>(gY Z Z Z (sc _ fz40 Z Qo Z Z (Q3 (JN va vs _ _ _ hRa.reads h322 Qb hRs) fun w35 hb=>?_))));replace hcw:=hcw.then_below hb;replace h:=h.bel hb;replace hT:=hT.bel hb;replace hB3:=hB3.bel hb;replace hB11:=hB11.bel hb;replace hB13:=hB13.bel hb;replace hE:=hE.bel hb;replace hRa:=hRa.bel hb;replace hRs:=hRs.bel hb;have zz35:=hb.size;clear hb
      refine Wn<|hQ_ _ _ (⟨h.blk,hB11,hB13⟩) ?_
      clear hQ_ hP_ Q_
      refine oY Z (fun G U=>(Qm Z Z)) Z<|oY Z (fun G U=>(Qy Z)) Z<|oN<|nN<|Qg<|bR<|tR ?_
      rw [decide_eq_true rfl];exact (rT Z Z (h.done hGa hcw)).1
     ·refine Jm inf95 Z (fun g13 w36 hB13 hg13 hb hl13=>?_);replace hcw:=hcw.then_below hb;replace h:=h.add hb [g13] (fun g_ hg_=>by rw [List.mem_singleton.1 hg_]; exact ⟨hg13,hl13⟩);have hoB13:=(h.mem (g:=g13) Q0).1;replace hT:=hT.bel hb;replace hB3:=hB3.bel hb;replace hB11:=hB11.bel hb;have zz36:=hb.size;clear hb
      refine Wn<|hQ_ _ _ (⟨c3 h.blk,hB3⟩) ?_
      clear hQ_ hP_ Q_
      refine uP<|uA Z (fun Q_ hQ_ hP_=>?_) u0
      refine sc _ fz38 Z Qo Z Z<|(Qpk h hT hcw (70000*c) d hG.q hG.good Qb Qb Qb).mono ?_
      rintro e_ w37 ⟨en,rfl,hen,⟨uL2,h⟩,hT,hcw,zz37,hX⟩;refine cR ?_
      first|replace hB3:=hB3.chg hX (fun e=>e.2.1 Q0)|skip
      first|replace hB7:=hB7.chg hX (fun e=>e.2.1 Q0)|skip
      first|replace hB9:=hB9.chg hX (fun e=>e.2.1 Q0)|skip
      first|replace hB11:=hB11.chg hX (fun e=>e.2.1 Q0)|skip
      first|replace hB13:=hB13.chg hX (fun e=>e.2.1 Q0)|skip
      clear hX
      refine Wn<|hQ_ _ _ (⟨c3 h.blk,hB3⟩) ?_
      clear hQ_ hP_ Q_
      refine uY Z (fun G U=>(Qd Z)) Z<|uY Z (fun G U=>(Qu Z Z)) Z<|uY Z (fun G U=>(Qu Z Z)) Z<|uP<|uA Z (fun Q_ hQ_ hP_=>?_) u0
      refine QY Z Z hB13 siz95 Z (YU en) (fun w38 bB cC=>?_);replace hB13:=bB;clear bB;replace h:=h.loc Q0 cC;replace hT:=hT.chg cC Z5;replace hB3:=hB3.chg cC Z5;replace hB11:=hB11.chg cC Z5;replace hcw:=hcw.next cC KO;have zz38:=cC.size;clear cC
      refine Wn<|hQ_ _ _ (⟨c3 h.blk,hB3⟩) ?_
      clear hQ_ hP_ Q_
      refine uY Z (fun G U=>(Qy Z)) Z<|uN<|nN<|QS (fun G=>Blk G gs 41 (ZW gd gr (some ⟨gw,0,none⟩) pp true (QD D x d).2.1.n uL2 (QD D x d).2.1.closed fL fg fw pn po)∧Blk G g11 59 (QD D x d).1.1.cells.toArray∧Blk G g13 95 (Jh en).toArray) [0,1,2,3,4,5,6,7,8,9,10,11,12,13,16,17,18,19,20,14,15,21,22,23,24] [Y,Y,Y,Y,Y,Y,Y,false,Y,Y,Y,Y,Y,Y,Y,Y,Y,Y,Y,false,false,false,false,Y,Y] Qo Qo (⟨h.blk.drew,hB11.drew,hB13.drew⟩) ?_
      obtain ⟨w39,hw_,hb⟩:=QN w38;rw [← hw_];clear hw_;have hS:=hb;replace hcw:=hcw.then_below hb;replace h:=h.bel hb;replace hT:=hT.bel hb;replace hB3:=hB3.bel hb;replace hB11:=hB11.bel hb;replace hB13:=hB13.bel hb;have zz39:=hb.size;clear hb
      refine oY Z (fun G U=>(Qd Z)) Z<|oY Z (fun G U=>(Qd Z)) Z<|oY Z (fun G U=>(QL Z Z)) Z<|oY Z (fun G U=>(Jf (c:=true) Z (decide_eq_true Z))) Z<|Q4 Z Z Z Z (fun G U=>(QE Z U.2.1 uz59 Z (by rw [hE35]; exact siz59))) Z ?_
      refine Q4 Z Z Z Z (fun G U=>(QE Z U.2.2 uz95 Z siz95)) Z<|Q4 Z Z Z Z (fun G U=>(Qd Z)) Z<|oL Z (fun Q_ hQ_ hP_=>(gY Z Z Z (sc _ fz39 Z Qo Z Z (Q3 (XY _ en _ _ hp32.1) fun w40 hb=>?_))))
      replace hcw:=hcw.then_below hb;replace h:=h.bel hb;replace hT:=hT.bel hb;replace hB3:=hB3.bel hb;replace hB11:=hB11.bel hb;replace hB13:=hB13.bel hb;have zz40:=hb.size;clear hb
      refine Wn<|hQ_ _ _ (⟨h.blk,hB11,hB13⟩) ?_
      clear hQ_ hP_ Q_;refine oY Z (fun G U=>(Qm Z Z)) Z ?_
      have h115:(if (QD D x d).1.2≠0∧(QD D x d).1.2≠16 then decide ((QD D x d).1.1=eZ) else decide ((QD D x d).1.1=en))=true:=by
       by_cases h0:(QD D x d).1.2=0∨(QD D x d).1.2=16
       ·rw [if_neg (by rintro ⟨a1,a2⟩; rcases h0 with e|e; exact a1 e; exact a2 e),hen h0]
        simp
       ·rw [if_pos ⟨fun e=>h0 (.inl e),fun e=>h0 (.inr e)⟩,hpa (fun e=>h0 (.inl e)) (fun e=>h0 (.inr e))]
        simp
      refine oY Z (fun G U=>(Jf (c:=true) Z (h115))) Z<|Q4 Z Z Z Z (fun G U=>(Qd Z)) Z<|Q4 Z Z Z Z (fun G U=>(Qc Z)) Z<|Q4 Z Z Z Z (fun G U=>(Qk Yr Z)) Z<|Q4 Z Z Z Z (fun G U=>(Qi Z U.1 uz33 Z Z)) Z<|Q4 Z Z Z Z (fun G U=>(Qd Z)) Z<|Q4 Z Z Z Z (fun G U=>(Qc Z)) Z<|Q4 Z Z Z Z (fun G U=>(Qk KG Z)) Z<|Q4 Z Z Z Z (fun G U=>(Qk Y1 Z)) Z<|Q4 Z Z Z Z (fun G U=>(Qi Z U.1 uz35 Z Z)) Z ?_
      obtain ⟨gw2,gx2,gm2,v2,S2,hgw,hA,_⟩:=h.wri
      obtain rfl:gw=gw2:=by injection hgw with e; injection e
      have hxl2:=(hGa.wl _ rfl).1;have h322:Yt (Jb (QD D x d).2.1.l).1:=Q5 hp32.2;have hml2:=JQ (QD D x d).2.1.l;refine oL Z (fun Q_ hQ_ hP_=>(gY Z Z Z (sc _ fz41 Z Qo Z Z ((YQ hA Qb).mono ?_))));rintro e_ w41 ⟨u,rfl,hE,hO,hb⟩;refine cR ?_;replace hcw:=hcw.then_below hb;replace h:=h.bel hb;replace hT:=hT.bel hb;replace hB3:=hB3.bel hb;replace hB11:=hB11.bel hb;replace hB13:=hB13.bel hb;have zz41:=hb.size;clear hb
      refine Wn<|hQ_ _ _ (⟨h.blk,hB11,hB13⟩) ?_
      clear hQ_ hP_ Q_;refine oL Z (fun Q_ hQ_ hP_=>(gY Z Z Z (sc _ fz42 Z Qo Z Z ((Zx _ _ _ hE h322 Qb).mono ?_))));rintro e_ w42 ⟨va,rfl,hRa,hOa,hb⟩;refine cR ?_;replace hcw:=hcw.then_below hb;replace h:=h.bel hb;replace hT:=hT.bel hb;replace hB3:=hB3.bel hb;replace hB11:=hB11.bel hb;replace hB13:=hB13.bel hb;replace hE:=hE.bel hb;have zz42:=hb.size;clear hb
      refine Wn<|hQ_ _ _ (⟨h.blk,hB11,hB13⟩) ?_
      clear hQ_ hP_ Q_;refine oL Z (fun Q_ hQ_ hP_=>(gY Z Z Z (sc _ fz43 Z Qo Z Z ((Z2 _ _ _ (h.vr.2 _ Z).2.2.2.reads Qb).mono ?_))));rintro e_ w43 ⟨vs,rfl,hRs,hb⟩;refine cR ?_;replace hcw:=hcw.then_below hb;replace h:=h.bel hb;replace hT:=hT.bel hb;replace hB3:=hB3.bel hb;replace hB11:=hB11.bel hb;replace hB13:=hB13.bel hb;replace hE:=hE.bel hb;replace hRa:=hRa.bel hb;have zz43:=hb.size;clear hb
      refine Wn<|hQ_ _ _ (⟨h.blk,hB11,hB13⟩) ?_
      clear hQ_ hP_ Q_;refine oL Z (fun Q_ hQ_ hP_=>(gY Z Z Z (sc _ fz40 Z Qo Z Z (Q3 (JN va vs _ _ _ hRa.reads h322 Qb hRs) fun w44 hb=>?_))));replace hcw:=hcw.then_below hb;replace h:=h.bel hb;replace hT:=hT.bel hb;replace hB3:=hB3.bel hb;replace hB11:=hB11.bel hb;replace hB13:=hB13.bel hb;replace hE:=hE.bel hb;replace hRa:=hRa.bel hb;replace hRs:=hRs.bel hb;have zz44:=hb.size;clear hb
      refine Wn<|hQ_ _ _ (⟨h.blk,hB11,hB13⟩) ?_
      clear hQ_ hP_ Q_
      refine oY Z (fun G U=>(Qm Z Z)) Z<|oY Z (fun G U=>(Qy Z)) Z<|oN<|nN<|Qg<|bR<|tR ?_
      rw [decide_eq_true rfl];exact (rT Z Z (h.done hGa hcw)).1
    ·refine Jm inf59 Z (fun g11 w45 hB11 hg11 hb hl11=>?_);replace hcw:=hcw.then_below hb;replace h:=h.add hb [g11] (fun g_ hg_=>by rw [List.mem_singleton.1 hg_]; exact ⟨hg11,hl11⟩);have hoB11:=(h.mem (g:=g11) Q0).1;replace hT:=hT.bel hb;replace hB3:=hB3.bel hb;have zz45:=hb.size;clear hb
     refine Wn<|hQ_ _ _ (⟨h.blk,hB3⟩) ?_
     clear hQ_ hP_ Q_
     refine uP<|uA Z (fun Q_ hQ_ hP_=>?_) u0
     refine sc _ fz12 Z Qo Z Z<|(xadd h hT hcw (70000*c) d hG.good Qb Qb Qb).mono ?_
     rintro e_ w46 ⟨rfl,h,hT,hcw,zz46,hX⟩;refine cR ?_
     first|replace hB3:=hB3.chg hX (fun e=>e.2.1 Q0)|skip
     first|replace hB7:=hB7.chg hX (fun e=>e.2.1 Q0)|skip
     first|replace hB9:=hB9.chg hX (fun e=>e.2.1 Q0)|skip
     first|replace hB11:=hB11.chg hX (fun e=>e.2.1 Q0)|skip
     first|replace hB13:=hB13.chg hX (fun e=>e.2.1 Q0)|skip
     clear hX
     refine Wn<|hQ_ _ _ (⟨h.blk,hB3⟩) ?_
     clear hQ_ hP_ Q_
     refine uY Z (fun G U=>(Qd Z)) Z<|uY Z (fun G U=>(Qu Z Z)) Z<|uY Z (fun G U=>(Qu Z Z)) Z<|uP<|uA Z (fun Q_ hQ_ hP_=>?_) u0
     refine QY Z Z hB11 (by rw [hE35]; exact siz59) (by rw [hE35]; rfl) (Ent.cells_one _) (fun w47 bB cC=>?_);replace hB11:=bB;clear bB;replace h:=h.loc Q0 cC;replace hT:=hT.chg cC Z5;replace hB3:=hB3.chg cC Z5;replace hcw:=hcw.next cC KO;have zz47:=cC.size;clear cC
     refine Wn<|hQ_ _ _ (⟨h.blk,hB3⟩) ?_
     clear hQ_ hP_ Q_
     refine uY Z (fun G U=>(Qy Z)) Z<|uN<|nN<|Y8 (fun G=>G.cell? ⟨gs,3,none⟩=some (.pointer (some ⟨gr,0,none⟩))∧Blk G g3 44 #[.int .i64 ask,.int .i64 m,.int .i64 at_,Qv d,.slice pa pl pc]) (.yes 0 (.yes 1 (.yes 2 (.yes 3 (.yes 4 (.yes 5 (.yes 6 (.yes 7 (.yes 8 (.pick (.alt 9 (.yes 10 (.yes 11 (.yes 12 (.pick (.alt 13 (.pick (.alt 14 (.yes 15 (.nil)) (.no))) (.no)))))) (.alt 13 (.pick (.alt 9 (.yes 10 (.yes 11 (.yes 12 (.pick (.alt 14 (.yes 15 (.nil)) (.no)))))) (.no))) (.no))))))))))))) Qo Qo (⟨c3 h.blk.drew,hB3.drew⟩) ?_
     obtain ⟨w48,hw_,hb⟩:=QN w47;rw [← hw_];clear hw_;have hS:=hb;replace hcw:=hcw.then_below hb;replace h:=h.bel hb;replace hT:=hT.bel hb;replace hB3:=hB3.bel hb;replace hB11:=hB11.bel hb;have zz48:=hb.size;clear hb
     refine uY Z (fun G U=>(Qd Z)) Z<|uY Z (fun G U=>(Qc Z)) Z<|uY Z (fun G U=>(Qk KG Z)) Z<|uY Z (fun G U=>(Qd Z)) Z<|uY Z (fun G U=>(Qc Z)) Z<|uY Z (fun G U=>(Qk ZO Z)) Z<|uY Z (fun G U=>(JS Z uz27 Z U.1)) Z<|uY Z (fun G U=>(Qk Vw Z)) Z<|uY Z (fun G U=>(Qi Z U.2 uz9 Z Z)) Z<|uP<|uA Z (fun Q_ hQ_ hP_=>?_)<|uA Z (fun Q_ hQ_ hP_=>?_) u0
     ·refine sc _ fz38 Z Qo Z Z<|(Qpk h hT hcw (70000*c) d hG.q hG.good Qb Qb Qb).mono ?_
      rintro e_ w49 ⟨en,rfl,hen,⟨uL2,h⟩,hT,hcw,zz49,hX⟩;refine cR ?_
      first|replace hB3:=hB3.chg hX (fun e=>e.2.1 Q0)|skip
      first|replace hB7:=hB7.chg hX (fun e=>e.2.1 Q0)|skip
      first|replace hB9:=hB9.chg hX (fun e=>e.2.1 Q0)|skip
      first|replace hB11:=hB11.chg hX (fun e=>e.2.1 Q0)|skip
      first|replace hB13:=hB13.chg hX (fun e=>e.2.1 Q0)|skip
      clear hX
      refine Wn<|hQ_ _ _ (⟨c3 h.blk,hB3⟩) ?_
      clear hQ_ hP_ Q_
      refine uY Z (fun G U=>(Qd Z)) Z<|uY Z (fun G U=>(Qu Z Z)) Z<|uY Z (fun G U=>(Qu Z Z)) Z<|uP<|uA Z (fun Q_ hQ_ hP_=>?_) u0
      refine Jm inf95 Z (fun g13 w50 hB13 hg13 hb hl13=>?_);replace hcw:=hcw.then_below hb;replace h:=h.add hb [g13] (fun g_ hg_=>by rw [List.mem_singleton.1 hg_]; exact ⟨hg13,hl13⟩);have hoB13:=(h.mem (g:=g13) Q0).1;replace hT:=hT.bel hb;replace hB3:=hB3.bel hb;replace hB11:=hB11.bel hb;have zz50:=hb.size;clear hb
      refine Wn<|hQ_ _ _ (⟨c3 h.blk,hB3⟩) ?_
      clear hQ_ hP_ Q_
      refine uP<|uA Z (fun Q_ hQ_ hP_=>?_) u0
      refine QY Z Z hB13 siz95 Z (YU en) (fun w51 bB cC=>?_);replace hB13:=bB;clear bB;replace h:=h.loc Q0 cC;replace hT:=hT.chg cC Z5;replace hB3:=hB3.chg cC Z5;replace hB11:=hB11.chg cC Z5;replace hcw:=hcw.next cC KO;have zz51:=cC.size;clear cC
      refine Wn<|hQ_ _ _ (⟨c3 h.blk,hB3⟩) ?_
      clear hQ_ hP_ Q_
      refine uY Z (fun G U=>(Qy Z)) Z<|uN<|nN<|QS (fun G=>Blk G gs 41 (ZW gd gr (some ⟨gw,0,none⟩) pp true (QD D x d).2.1.n uL2 (QD D x d).2.1.closed fL fg fw pn po)∧Blk G g11 59 (QD D x d).1.1.cells.toArray∧Blk G g13 95 (Jh en).toArray) [0,1,2,3,4,5,6,7,8,9,10,11,12,13,16,17,18,19,20,14,15,21,22,23,24] [Y,Y,Y,Y,Y,Y,Y,false,Y,Y,Y,Y,Y,Y,Y,Y,Y,Y,Y,false,false,false,false,Y,Y] Qo Qo (⟨h.blk.drew,hB11.drew,hB13.drew⟩) ?_
      obtain ⟨w52,hw_,hb⟩:=QN w51;rw [← hw_];clear hw_;have hS:=hb;replace hcw:=hcw.then_below hb;replace h:=h.bel hb;replace hT:=hT.bel hb;replace hB3:=hB3.bel hb;replace hB11:=hB11.bel hb;replace hB13:=hB13.bel hb;have zz52:=hb.size;clear hb
      refine oY Z (fun G U=>(Qd Z)) Z<|oY Z (fun G U=>(Qd Z)) Z<|oY Z (fun G U=>(QL Z Z)) Z<|oY Z (fun G U=>(Jf (c:=true) Z (decide_eq_true Z))) Z<|Q4 Z Z Z Z (fun G U=>(QE Z U.2.1 uz59 Z (by rw [hE35]; exact siz59))) Z ?_
      refine Q4 Z Z Z Z (fun G U=>(QE Z U.2.2 uz95 Z siz95)) Z<|Q4 Z Z Z Z (fun G U=>(Qd Z)) Z<|oL Z (fun Q_ hQ_ hP_=>(gY Z Z Z (sc _ fz39 Z Qo Z Z (Q3 (XY _ en _ _ hp32.1) fun w53 hb=>?_))))
      replace hcw:=hcw.then_below hb;replace h:=h.bel hb;replace hT:=hT.bel hb;replace hB3:=hB3.bel hb;replace hB11:=hB11.bel hb;replace hB13:=hB13.bel hb;have zz53:=hb.size;clear hb
      refine Wn<|hQ_ _ _ (⟨h.blk,hB11,hB13⟩) ?_
      clear hQ_ hP_ Q_;refine oY Z (fun G U=>(Qm Z Z)) Z ?_
      have h115:(if (QD D x d).1.2≠0∧(QD D x d).1.2≠16 then decide ((QD D x d).1.1=eZ) else decide ((QD D x d).1.1=en))=true:=by
       by_cases h0:(QD D x d).1.2=0∨(QD D x d).1.2=16
       ·rw [if_neg (by rintro ⟨a1,a2⟩; rcases h0 with e|e; exact a1 e; exact a2 e),hen h0]
        simp
       ·rw [if_pos ⟨fun e=>h0 (.inl e),fun e=>h0 (.inr e)⟩,hpa (fun e=>h0 (.inl e)) (fun e=>h0 (.inr e))]
        simp
      refine oY Z (fun G U=>(Jf (c:=true) Z (h115))) Z<|Q4 Z Z Z Z (fun G U=>(Qd Z)) Z<|Q4 Z Z Z Z (fun G U=>(Qc Z)) Z<|Q4 Z Z Z Z (fun G U=>(Qk Yr Z)) Z<|Q4 Z Z Z Z (fun G U=>(Qi Z U.1 uz33 Z Z)) Z<|Q4 Z Z Z Z (fun G U=>(Qd Z)) Z<|Q4 Z Z Z Z (fun G U=>(Qc Z)) Z<|Q4 Z Z Z Z (fun G U=>(Qk KG Z)) Z<|Q4 Z Z Z Z (fun G U=>(Qk Y1 Z)) Z<|Q4 Z Z Z Z (fun G U=>(Qi Z U.1 uz35 Z Z)) Z ?_
      obtain ⟨gw2,gx2,gm2,v2,S2,hgw,hA,_⟩:=h.wri
      obtain rfl:gw=gw2:=by injection hgw with e; injection e
      have hxl2:=(hGa.wl _ rfl).1;have h322:Yt (Jb (QD D x d).2.1.l).1:=Q5 hp32.2;have hml2:=JQ (QD D x d).2.1.l;refine oL Z (fun Q_ hQ_ hP_=>(gY Z Z Z (sc _ fz41 Z Qo Z Z ((YQ hA Qb).mono ?_))));rintro e_ w54 ⟨u,rfl,hE,hO,hb⟩;refine cR ?_;replace hcw:=hcw.then_below hb;replace h:=h.bel hb;replace hT:=hT.bel hb;replace hB3:=hB3.bel hb;replace hB11:=hB11.bel hb;replace hB13:=hB13.bel hb;have zz54:=hb.size;clear hb
      refine Wn<|hQ_ _ _ (⟨h.blk,hB11,hB13⟩) ?_
      clear hQ_ hP_ Q_;refine oL Z (fun Q_ hQ_ hP_=>(gY Z Z Z (sc _ fz42 Z Qo Z Z ((Zx _ _ _ hE h322 Qb).mono ?_))));rintro e_ w55 ⟨va,rfl,hRa,hOa,hb⟩;refine cR ?_;replace hcw:=hcw.then_below hb;replace h:=h.bel hb;replace hT:=hT.bel hb;replace hB3:=hB3.bel hb;replace hB11:=hB11.bel hb;replace hB13:=hB13.bel hb;replace hE:=hE.bel hb;have zz55:=hb.size;clear hb
      refine Wn<|hQ_ _ _ (⟨h.blk,hB11,hB13⟩) ?_
      clear hQ_ hP_ Q_;refine oL Z (fun Q_ hQ_ hP_=>(gY Z Z Z (sc _ fz43 Z Qo Z Z ((Z2 _ _ _ (h.vr.2 _ Z).2.2.2.reads Qb).mono ?_))));rintro e_ w56 ⟨vs,rfl,hRs,hb⟩;refine cR ?_;replace hcw:=hcw.then_below hb;replace h:=h.bel hb;replace hT:=hT.bel hb;replace hB3:=hB3.bel hb;replace hB11:=hB11.bel hb;replace hB13:=hB13.bel hb;replace hE:=hE.bel hb;replace hRa:=hRa.bel hb;have zz56:=hb.size;clear hb
      refine Wn<|hQ_ _ _ (⟨h.blk,hB11,hB13⟩) ?_
      clear hQ_ hP_ Q_;refine oL Z (fun Q_ hQ_ hP_=>(gY Z Z Z (sc _ fz40 Z Qo Z Z (Q3 (JN va vs _ _ _ hRa.reads h322 Qb hRs) fun w57 hb=>?_))));replace hcw:=hcw.then_below hb;replace h:=h.bel hb;replace hT:=hT.bel hb;replace hB3:=hB3.bel hb;replace hB11:=hB11.bel hb;replace hB13:=hB13.bel hb;replace hE:=hE.bel hb;replace hRa:=hRa.bel hb;replace hRs:=hRs.bel hb;have zz57:=hb.size;clear hb
      refine Wn<|hQ_ _ _ (⟨h.blk,hB11,hB13⟩) ?_
      clear hQ_ hP_ Q_
      refine oY Z (fun G U=>(Qm Z Z)) Z<|oY Z (fun G U=>(Qy Z)) Z<|oN<|nN<|Qg<|bR<|tR ?_
      rw [decide_eq_true rfl];exact (rT Z Z (h.done hGa hcw)).1
     ·refine Jm inf95 Z (fun g13 w58 hB13 hg13 hb hl13=>?_);replace hcw:=hcw.then_below hb;replace h:=h.add hb [g13] (fun g_ hg_=>by rw [List.mem_singleton.1 hg_]; exact ⟨hg13,hl13⟩);have hoB13:=(h.mem (g:=g13) Q0).1;replace hT:=hT.bel hb;replace hB3:=hB3.bel hb;replace hB11:=hB11.bel hb;have zz58:=hb.size;clear hb
      refine Wn<|hQ_ _ _ (⟨c3 h.blk,hB3⟩) ?_
      clear hQ_ hP_ Q_
      refine uP<|uA Z (fun Q_ hQ_ hP_=>?_) u0
      refine sc _ fz38 Z Qo Z Z<|(Qpk h hT hcw (70000*c) d hG.q hG.good Qb Qb Qb).mono ?_
      rintro e_ w59 ⟨en,rfl,hen,⟨uL2,h⟩,hT,hcw,zz59,hX⟩;refine cR ?_
      first|replace hB3:=hB3.chg hX (fun e=>e.2.1 Q0)|skip
      first|replace hB7:=hB7.chg hX (fun e=>e.2.1 Q0)|skip
      first|replace hB9:=hB9.chg hX (fun e=>e.2.1 Q0)|skip
      first|replace hB11:=hB11.chg hX (fun e=>e.2.1 Q0)|skip
      first|replace hB13:=hB13.chg hX (fun e=>e.2.1 Q0)|skip
      clear hX
      refine Wn<|hQ_ _ _ (⟨c3 h.blk,hB3⟩) ?_
      clear hQ_ hP_ Q_
      refine uY Z (fun G U=>(Qd Z)) Z<|uY Z (fun G U=>(Qu Z Z)) Z<|uY Z (fun G U=>(Qu Z Z)) Z<|uP<|uA Z (fun Q_ hQ_ hP_=>?_) u0
      refine QY Z Z hB13 siz95 Z (YU en) (fun w60 bB cC=>?_);replace hB13:=bB;clear bB;replace h:=h.loc Q0 cC;replace hT:=hT.chg cC Z5;replace hB3:=hB3.chg cC Z5;replace hB11:=hB11.chg cC Z5;replace hcw:=hcw.next cC KO;have zz60:=cC.size;clear cC
      refine Wn<|hQ_ _ _ (⟨c3 h.blk,hB3⟩) ?_
      clear hQ_ hP_ Q_
      refine uY Z (fun G U=>(Qy Z)) Z<|uN<|nN<|QS (fun G=>Blk G gs 41 (ZW gd gr (some ⟨gw,0,none⟩) pp true (QD D x d).2.1.n uL2 (QD D x d).2.1.closed fL fg fw pn po)∧Blk G g11 59 (QD D x d).1.1.cells.toArray∧Blk G g13 95 (Jh en).toArray) [0,1,2,3,4,5,6,7,8,9,10,11,12,13,16,17,18,19,20,14,15,21,22,23,24] [Y,Y,Y,Y,Y,Y,Y,false,Y,Y,Y,Y,Y,Y,Y,Y,Y,Y,Y,false,false,false,false,Y,Y] Qo Qo (⟨h.blk.drew,hB11.drew,hB13.drew⟩) ?_
      obtain ⟨w61,hw_,hb⟩:=QN w60;rw [← hw_];clear hw_;have hS:=hb;replace hcw:=hcw.then_below hb;replace h:=h.bel hb;replace hT:=hT.bel hb;replace hB3:=hB3.bel hb;replace hB11:=hB11.bel hb;replace hB13:=hB13.bel hb;have zz61:=hb.size;clear hb
      refine oY Z (fun G U=>(Qd Z)) Z<|oY Z (fun G U=>(Qd Z)) Z<|oY Z (fun G U=>(QL Z Z)) Z<|oY Z (fun G U=>(Jf (c:=true) Z (decide_eq_true Z))) Z<|Q4 Z Z Z Z (fun G U=>(QE Z U.2.1 uz59 Z (by rw [hE35]; exact siz59))) Z ?_
      refine Q4 Z Z Z Z (fun G U=>(QE Z U.2.2 uz95 Z siz95)) Z<|Q4 Z Z Z Z (fun G U=>(Qd Z)) Z<|oL Z (fun Q_ hQ_ hP_=>(gY Z Z Z (sc _ fz39 Z Qo Z Z (Q3 (XY _ en _ _ hp32.1) fun w62 hb=>?_))))
      replace hcw:=hcw.then_below hb;replace h:=h.bel hb;replace hT:=hT.bel hb;replace hB3:=hB3.bel hb;replace hB11:=hB11.bel hb;replace hB13:=hB13.bel hb;have zz62:=hb.size;clear hb
      refine Wn<|hQ_ _ _ (⟨h.blk,hB11,hB13⟩) ?_
      clear hQ_ hP_ Q_;refine oY Z (fun G U=>(Qm Z Z)) Z ?_
      have h115:(if (QD D x d).1.2≠0∧(QD D x d).1.2≠16 then decide ((QD D x d).1.1=eZ) else decide ((QD D x d).1.1=en))=true:=by
       by_cases h0:(QD D x d).1.2=0∨(QD D x d).1.2=16
       ·rw [if_neg (by rintro ⟨a1,a2⟩; rcases h0 with e|e; exact a1 e; exact a2 e),hen h0]
        simp
       ·rw [if_pos ⟨fun e=>h0 (.inl e),fun e=>h0 (.inr e)⟩,hpa (fun e=>h0 (.inl e)) (fun e=>h0 (.inr e))]
        simp
      refine oY Z (fun G U=>(Jf (c:=true) Z (h115))) Z<|Q4 Z Z Z Z (fun G U=>(Qd Z)) Z<|Q4 Z Z Z Z (fun G U=>(Qc Z)) Z<|Q4 Z Z Z Z (fun G U=>(Qk Yr Z)) Z<|Q4 Z Z Z Z (fun G U=>(Qi Z U.1 uz33 Z Z)) Z<|Q4 Z Z Z Z (fun G U=>(Qd Z)) Z<|Q4 Z Z Z Z (fun G U=>(Qc Z)) Z<|Q4 Z Z Z Z (fun G U=>(Qk KG Z)) Z<|Q4 Z Z Z Z (fun G U=>(Qk Y1 Z)) Z<|Q4 Z Z Z Z (fun G U=>(Qi Z U.1 uz35 Z Z)) Z ?_
      obtain ⟨gw2,gx2,gm2,v2,S2,hgw,hA,_⟩:=h.wri
      obtain rfl:gw=gw2:=by injection hgw with e; injection e
      have hxl2:=(hGa.wl _ rfl).1;have h322:Yt (Jb (QD D x d).2.1.l).1:=Q5 hp32.2;have hml2:=JQ (QD D x d).2.1.l;refine oL Z (fun Q_ hQ_ hP_=>(gY Z Z Z (sc _ fz41 Z Qo Z Z ((YQ hA Qb).mono ?_))));rintro e_ w63 ⟨u,rfl,hE,hO,hb⟩;refine cR ?_;replace hcw:=hcw.then_below hb;replace h:=h.bel hb;replace hT:=hT.bel hb;replace hB3:=hB3.bel hb;replace hB11:=hB11.bel hb;replace hB13:=hB13.bel hb;have zz63:=hb.size;clear hb
      refine Wn<|hQ_ _ _ (⟨h.blk,hB11,hB13⟩) ?_
      clear hQ_ hP_ Q_;refine oL Z (fun Q_ hQ_ hP_=>(gY Z Z Z (sc _ fz42 Z Qo Z Z ((Zx _ _ _ hE h322 Qb).mono ?_))));rintro e_ U8 ⟨va,rfl,hRa,hOa,hb⟩;refine cR ?_;replace hcw:=hcw.then_below hb;replace h:=h.bel hb;replace hT:=hT.bel hb;replace hB3:=hB3.bel hb;replace hB11:=hB11.bel hb;replace hB13:=hB13.bel hb;replace hE:=hE.bel hb;have zz64:=hb.size;clear hb
      refine Wn<|hQ_ _ _ (⟨h.blk,hB11,hB13⟩) ?_
      clear hQ_ hP_ Q_;refine oL Z (fun Q_ hQ_ hP_=>(gY Z Z Z (sc _ fz43 Z Qo Z Z ((Z2 _ _ _ (h.vr.2 _ Z).2.2.2.reads Qb).mono ?_))));rintro e_ w65 ⟨vs,rfl,hRs,hb⟩;refine cR ?_;replace hcw:=hcw.then_below hb;replace h:=h.bel hb;replace hT:=hT.bel hb;replace hB3:=hB3.bel hb;replace hB11:=hB11.bel hb;replace hB13:=hB13.bel hb;replace hE:=hE.bel hb;replace hRa:=hRa.bel hb;have zz65:=hb.size;clear hb
      refine Wn<|hQ_ _ _ (⟨h.blk,hB11,hB13⟩) ?_
      clear hQ_ hP_ Q_;refine oL Z (fun Q_ hQ_ hP_=>(gY Z Z Z (sc _ fz40 Z Qo Z Z (Q3 (JN va vs _ _ _ hRa.reads h322 Qb hRs) fun w66 hb=>?_))));replace hcw:=hcw.then_below hb;replace h:=h.bel hb;replace hT:=hT.bel hb;replace hB3:=hB3.bel hb;replace hB11:=hB11.bel hb;replace hB13:=hB13.bel hb;replace hE:=hE.bel hb;replace hRa:=hRa.bel hb;replace hRs:=hRs.bel hb;have zz66:=hb.size;clear hb
      refine Wn<|hQ_ _ _ (⟨h.blk,hB11,hB13⟩) ?_
      clear hQ_ hP_ Q_
      refine oY Z (fun G U=>(Qm Z Z)) Z<|oY Z (fun G U=>(Qy Z)) Z<|oN<|nN<|Qg<|bR<|tR ?_
      rw [decide_eq_true rfl];exact (rT Z Z (h.done hGa hcw)).1
  ·replace h63:=Qs h63
   refine Qf<|bN<|tN<|Qe<|Qa<|sm Z Z<|st (Qc Z) Z<|st (Qk KG Z) Z<|st (Qk Qdo Z) Z<|st (Qi Z h.blk uz4 Z Z) Z<|st (Jk Z) Z<|Wn<|tN<|Qx Z (fun h135=>?_) (fun h135=>?_)
   ·replace h135:=Qs h135
    obtain rfl:W=none:=by cases W with|none=>rfl|some x=>have:=(h.vr.2 x rfl).1; rw [this] at h135; simp at h135
    obtain rfl:pw=none:=h.wn rfl
    refine Qa<|sm Z Z<|st (Qc Z) Z<|st (Qk Yr Z) Z<|st (Qi Z h.blk uz33 Z Z) Z<|sc _ Tryz.func44 Z Qo Z Z (Q3 (pclose_nil _) fun w67 hb=>?_)
    replace hcw:=hcw.then_below hb;replace h:=h.bel hb;replace hT:=hT.bel hb;replace hB3:=hB3.bel hb;have zz67:=hb.size;clear hb
    refine sm Z Z<|st (Qu Z Z) Z<|st (Qu Z Z) Z<|Jm inf101 Z (fun g15 w68 hB15 hg15 hb hl15=>?_)
    replace hcw:=hcw.then_below hb;replace h:=h.add hb [g15] (fun g_ hg_=>by rw [List.mem_singleton.1 hg_]; exact ⟨hg15,hl15⟩);have hoB15:=(h.mem (g:=g15) Q0).1;replace hT:=hT.bel hb;replace hB3:=hB3.bel hb;have zz68:=hb.size;clear hb;refine QY Z Z hB15 siz101 Z Z (fun w69 bB cC=>?_);replace hB15:=bB;clear bB;replace h:=h.loc Q0 cC;replace hT:=hT.chg cC Z5;replace hB3:=hB3.chg cC Z5;replace hcw:=hcw.next cC KO;have zz69:=cC.size;clear cC
    refine sa Z Z<|Wn<|tN<|Qa<|sm Z Z<|st (QL Z Z) Z<|sa Z Z<|Wn<|tN<|Qg<|tR ?_
    exact (rT Z Z (h.done hG.mono hcw)).1
   ·replace h135:=Qs h135
    obtain ⟨x,rfl⟩:∃ x,W=some x:=by cases W with|none=>rw [(h.vr.1 rfl).1] at h135; exact absurd h135 Q0|some x=>exact ⟨x,rfl⟩
    obtain ⟨rfl,rfl,rfl,hLr⟩:=h.vr.2 x rfl;obtain ⟨gw,gx,gm,v,S,rfl,hA,_⟩:=h.wri;obtain ⟨hxl,hxr⟩:=hG.wl x rfl;have hs32:Yt x.l:=hA.scn.s32;have hGa:=hG.close
    have hcs32:Yt (Jc D x).1.1:=by
     unfold Jc
     split
     ·exact fun e he=>by cases he
     split
     ·exact fun e he=>by cases he
     split
     ·exact fun e he=>by cases he
     ·exact Q5 hs32
    have hclen:(Jc D x).1.1.length≤1000:=by
     have:=JQ x.l
     unfold Jc
     split
     ·simp
     split
     ·simp
     split
     ·simp
     ·simp only; omega
    clear hLr hA
    refine Qf<|tN<|Qa<|sm Z Z<|st (Qc Z) Z<|st (Qk Yr Z) Z<|st (Qi Z h.blk uz33 Z Z) Z<|sc _ Tryz.func44 Z Qo Z Z<|(xclose h hT hcw (70000*c) hG.good Qb Qb).mono ?_
    rintro e_ w70 ⟨u,Mu,rfl,hE,hO,h,hT,hcw,zz70,hX⟩;refine cR ?_
    first|replace hB3:=hB3.chg hX (fun e=>e.2.1 Q0)|skip
    first|replace hB7:=hB7.chg hX (fun e=>e.2.1 Q0)|skip
    first|replace hB9:=hB9.chg hX (fun e=>e.2.1 Q0)|skip
    first|replace hB11:=hB11.chg hX (fun e=>e.2.1 Q0)|skip
    first|replace hB13:=hB13.chg hX (fun e=>e.2.1 Q0)|skip
    first|replace hB15:=hB15.chg hX (fun e=>e.2.1 Q0)|skip
    clear hX
    obtain ⟨am,cm,rfl⟩:∃ am cm,u=.slice am (Jc D x).1.1.length cm:=by obtain ⟨_,am,cm,e,_⟩:=hE; exact ⟨am,cm,e⟩
    refine sm Z Z<|st (Qu Z Z) Z<|st (Qu Z Z) Z<|Jm inf101 Z (fun g17 w71 hB17 hg17 hb hl17=>?_)
    replace hcw:=hcw.then_below hb;replace h:=h.add hb [g17] (fun g_ hg_=>by rw [List.mem_singleton.1 hg_]; exact ⟨hg17,hl17⟩);have hoB17:=(h.mem (g:=g17) Q0).1;replace hT:=hT.bel hb;replace hB3:=hB3.bel hb;replace hE:=hE.bel hb;have zz71:=hb.size;clear hb;refine QY Z Z hB17 siz101 Z (by simp [Value.oneCell']) (fun w72 bB cC=>?_);replace hE:=EntsAt.chgI hE hcs32 hB17 cC;replace hB17:=bB;replace h:=h.loc Q0 cC;replace hT:=hT.chg cC (fun k hk=>by have h1:k=g17:=hk; omega);replace hcw:=hcw.next cC (fun i hi=>.inl (by have h1:i=g17:=hi; show B≤i; omega));have zz72:=cC.size;clear bB cC hB3
    refine sa Z Z<|Wn<|tN<|QS (fun G=>G.cell? ⟨gs,3,none⟩=some (.pointer (some ⟨gr,0,none⟩))) [0,1,2,3,4,5,6,7,8,9,10,11,12] [Y,Y,Y,Y,Y,Y,Y,false,Y,Y,Y,Y,Y] Qo Qo (c3 h.blk.drew) ?_
    obtain ⟨w73,hw_,hb⟩:=QN w72;rw [← hw_];clear hw_;have hS:=hb;replace hcw:=hcw.then_below hb;replace h:=h.bel hb;replace hT:=hT.bel hb;replace hE:=hE.bel hb;replace hB17:=hB17.bel hb;have zz73:=hb.size;clear hb
    refine oY Z (fun G U=>(Qd Z)) Z<|oY Z (fun G U=>(Qc Z)) Z<|oY Z (fun G U=>(Qk KG Z)) Z<|oY Z (fun G U=>(Qd Z)) Z<|oY Z (fun G U=>(Qc Z)) Z<|oY Z (fun G U=>(Qk ZO Z)) Z<|oY Z (fun G U=>(JS Z uz27 Z U)) Z<|oL Z (fun Q_ hQ_ hP_=>(sc _ Tryz.func45 Z Qo Z Z ((xrclose h hT hcw (70000*c) hG.q hG.good Qb Qb).mono ?_)))
    rintro e_ w74 ⟨u2,rfl,hE2,⟨uL2,h⟩,hT,hcw,zz74,hX⟩;refine cR ?_;replace hE:EntsAt _ _ _:=Reads.chgS hE hX (fun h0 k hk e=>e.2.2 (hO h0 k hk))
    first|replace hB3:=hB3.chg hX (fun e=>e.2.1 Q0)|skip
    first|replace hB7:=hB7.chg hX (fun e=>e.2.1 Q0)|skip
    first|replace hB9:=hB9.chg hX (fun e=>e.2.1 Q0)|skip
    first|replace hB11:=hB11.chg hX (fun e=>e.2.1 Q0)|skip
    first|replace hB13:=hB13.chg hX (fun e=>e.2.1 Q0)|skip
    first|replace hB15:=hB15.chg hX (fun e=>e.2.1 Q0)|skip
    first|replace hB17:=hB17.chg hX (fun e=>e.2.1 Q0)|skip
    clear hX
    refine Wn<|hQ_ _ _ (c3 h.blk) ?_
    clear hQ_ hP_ Q_
    refine oY Z (fun G U=>(Qd Z)) Z<|oY Z (fun G U=>(Qu Z Z)) Z<|oY Z (fun G U=>(Qu Z Z)) Z<|oY Z (fun G U=>(Qy Z)) Z<|oY Z (fun G U=>(Qy Z)) Z<|oN<|nN<|Qa<|sm Z Z<|sm Z Z<|st (QL Z Z) Z<|UP Z (decide_eq_true Z) Z<|gY Z Z Z<|st (QE Z hB17 uz101 Z siz101) Z<|gY Z Z Z<|sc _ fz42 Z Qo Z Z<|(Zx _ _ _ hE hcs32 Qb).mono ?_
    rintro e_ w75 ⟨va,rfl,hRa,hOa,hb⟩;refine cR ?_;replace hcw:=hcw.then_below hb;replace h:=h.bel hb;replace hT:=hT.bel hb;replace hE:=hE.bel hb;replace hB17:=hB17.bel hb;replace hE2:=hE2.bel hb;have zz75:=hb.size;clear hb
    refine gY Z Z Z<|sm Z Z<|gY Z Z Z<|sc _ fz40 Z Qo Z Z (Q3 (JN va u2 _ _ _ hRa.reads hcs32 Qb hE2) fun w76 hb=>?_)
    replace hcw:=hcw.then_below hb;replace h:=h.bel hb;replace hT:=hT.bel hb;replace hE:=hE.bel hb;replace hB17:=hB17.bel hb;replace hE2:=hE2.bel hb;replace hRa:=hRa.bel hb;have zz76:=hb.size;clear hb
    refine st (Qm Z Z) Z<|sa Z Z<|Wn<|tN<|Qg ?_
    rw [decide_eq_true rfl];exact (rT Z Z (h.done hGa hcw)).1
end
end
section
open Go.RowKit Sha
def NP (b c:Nat) (w:World) (gd:Nat) (n:Int) (r:Scn×Int) (p:Option Addr):Prop :=
  (r.2≠0→p=none)∧(r.2=0→∃ gp gx gm v,p=some ⟨gp,0,none⟩∧PakAt w gd gp gx gm v n r.1∧∀ k,(k=gp∨k=gx∨k=gm∨v.ownBlock=some k)→b≤k∧k<c)
theorem HI {D:DiskD} {n:Int} (h:(QB D n).2≠0):(QB D n).1=sc0:=by
 unfold QB at h ⊢
 split
 ·rfl
 rename_i h1
 rw [if_neg h1] at h
 split
 ·rfl
 rename_i h2
 rw [if_neg h2] at h;unfold Zp at h ⊢
 split
 ·rfl
 rename_i h3
 rw [if_neg h3] at h
 split
 ·rfl
 rename_i h4
 rw [if_neg h4] at h;exact absurd Z h
section
variable {b c B gs gd gr:Nat} {w w':World} {D E:DiskD} {n:Int} {r:Scn×Int} {p:Option Addr} {T S:Nat→Prop}
theorem NP.chg (h:NP b c w gd n r p) (hc:Chg T w w') (hT:∀ k,T k→¬(b≤k∧k<c)):NP b c w' gd n r p:=by
 refine ⟨h.1,fun h0=>?_⟩;obtain ⟨gp,gx,gm,v,h1,h2,h3⟩:=h.2 h0;exact ⟨gp,gx,gm,v,h1,h2.chg hc (fun e=>hT _ e (h3 _ (.inl Z))) (fun e=>hT _ e (h3 _ (.inr (.inl Z)))) (fun e=>hT _ e (h3 _ (.inr (.inr (.inl Z))))) (fun k hk e=>hT _ e (h3 _ (.inr (.inr (.inr hk))))),h3⟩
theorem NP.bel (h:NP b c w gd n r p) (hb:Below w.heap.size w w'):NP b c w' gd n r p:=h.chg (Chg.of_below hb (fun _=>False)) (fun _ e=>e.elim)
theorem PakAt.lts {gp gx gm:Nat} {v:Value} {x:Scn} (h:PakAt w gd gp gx gm v n x):∀ k,(k=gp∨k=gx∨k=gm∨v.ownBlock=some k)→k<w.heap.size:=by
 obtain ⟨m,hM,_⟩:=h.scn.map;rintro k (rfl|rfl|rfl|e)
 ·exact h.blk.lt
 ·exact h.scn.blk.lt
 ·exact hM.lt
 ·exact X7 h.scn.row k e
theorem xpopen (m:Int) (hd:DiskAt w gd D S) (hok:DOk D) (hT:PTabs B w) :
  Calls Tryz.prog 50 #[.pointer (some ⟨gd,0,none⟩),.int .i64 m] w fun e w'=>∃ p b c,e=.returned (.tuple #[.pointer p,.int .i64 (QB D m).2])∧NP b c w' gd m (QB D m) p∧p.isSome=decide ((QB D m).2=0)∧w.heap.size≤b∧c≤w'.heap.size∧Below w.heap.size w w':=by
 refine (Qex B gd D S m w hd hok hT).mono ?_;rintro e w' ⟨p,rfl,h1,h2,hb⟩;refine ⟨p,w.heap.size,w'.heap.size,Z,⟨h1,fun h0=>?_⟩,?_,Nat.le_refl _,Nat.le_refl _,hb⟩
 ·obtain ⟨gp,gx,gm,v,hp,hA,hO⟩:=h2 h0;refine ⟨gp,gx,gm,v,hp,hA,fun k hk=>⟨?_,hA.lts k hk⟩⟩
  rcases hk with rfl|rfl|rfl|e
  ·exact hO.1
  ·exact hO.2.1
  ·exact hO.2.2.1
  ·exact hO.2.2.2 k e
 ·by_cases h0:(QB D m).2=0
  ·obtain ⟨gp,gx,gm,v,hp,_⟩:=h2 h0;rw [hp,decide_eq_true h0]; rfl
  ·rw [h1 h0,decide_eq_false h0]; rfl
theorem xkI (h:NP b c w gd n (QB D n) p) (hok:DOk D):Calls Tryz.prog 52 #[.pointer p] w fun e w'=>∃ u,e=.returned (.agg #[u])∧EntsAt w' u (Jb (QB D n).1.l).1∧Below w.heap.size w w':=by
 by_cases h0:(QB D n).2=0
 ·obtain ⟨gp,gx,gm,v,rfl,hA,_⟩:=h.2 h0;refine (Qcz hA (by have:=(XQ hok n).1; omega)).mono ?_;rintro e w' ⟨u,rfl,hE,_,hb⟩;exact ⟨u,Z,hE,hb⟩
 ·rw [h.1 h0,HI h0];refine (Qnn w).mono ?_;rintro e w' ⟨rfl,hb⟩;exact ⟨_,Z,(by rw [List.eq_nil_of_length_eq_zero (l:=(Jb sc0.l).1) (by have:=JQ sc0.l; have h0:sc0.l.length=0:=Z; omega)]; exact EntsAt.nil w'),hb⟩
theorem xkW (h:NP b c w gd n (QB D n) p):Calls Tryz.prog 53 #[.pointer p] w fun e w'=>e=.returned (.bool (QB D n).1.whole)∧Below w.heap.size w w':=by
 by_cases h0:(QB D n).2=0
 ·obtain ⟨gp,gx,gm,v,rfl,hA,_⟩:=h.2 h0;exact Qnm hA
 ·rw [h.1 h0,HI h0];exact Qnl w
theorem xkG (h:NP b c w gd n (QB D n) p):Calls Tryz.prog 54 #[.pointer p] w fun e w'=>e=.returned (.int .i64 (QB D n).1.good)∧Below w.heap.size w w':=by
 by_cases h0:(QB D n).2=0
 ·obtain ⟨gp,gx,gm,v,rfl,hA,_⟩:=h.2 h0;exact Qsc hA
 ·rw [h.1 h0,HI h0];exact Qsb w
def getA (D:DiskD) (a:List UInt8):Option (Int×Scn)→List UInt8×Int
  | none=>([],2)
  | some p=>Yw D p.1 p.2.l a
end
section
variable {B gs gd gr c:Nat} {w:World} {D E:DiskD} {W V:Option Wri} {P:Option (Int×Scn)} {pw pp:Option Addr} {is cl po fw:Bool} {n pn fg:Int} {uL fL:Value} {pW:Option Addr} {nW:Option Wri} {L M:List Nat}
theorem xget (h:PX B w gs gd gr D E W V P pw pp is n uL cl fL fg fw pn po pW nW L M) (a:List UInt8) (ha:a.length=32) (hok:DOk D) (hT:PTabs B w):Calls Tryz.prog 55 #[.pointer pp,.agg (a.map bv).toArray] w fun e w'=>e=.returned (.tuple #[Qv (getA D a P).1,.int .i64 (getA D a P).2])∧Below w.heap.size w w':=by
 cases P with
 | none =>
  obtain ⟨rfl,_⟩:=h.pkn;exact Qum w a
 | some p =>
  obtain ⟨S,hd,_⟩:=h.dsk;obtain ⟨gp,gx,gm,v,rfl,_,_,_,_,hA,hE,_⟩:=h.pak
  exact Qun a hA hd.at_ hok hT ha hE
end
section
variable {B gs gd gr c:Nat} {w:World} {D:DiskD} {W:Option Wri} {P:Option (Int×Scn)} {pw pp:Option Addr} {is cl po fw:Bool} {n pn fg:Int} {uL fL:Value}
theorem PX.done0 {M:List Nat} {L:List Nat} {w0:World} (h:PX B w gs gd gr D D W W P pw pp is n uL cl fL fg fw pn po none none L M) (hG:PlG (c+1) D W) (hcw:Chg (fun k=>k=gs∨w0.heap.size≤k) w0 w) (h1:B≤gs) (h2:B≤w0.heap.size):XL B gs gd gr c w0 (.returned (.bool true)) w :=
 h.done hG (hcw.mono (fun k _ hk=>hk.elim (fun e=>by rw [e]; exact h1) (fun e=>Nat.le_trans h2 e)))
theorem Qeu (h:PX B w gs gd gr D D W W P pw pp is n uL cl fL fg fw pn po none none [] []) (hG:PlG c D W) (hc:c≤50) (hT:PTabs B w) (ask m at_:Int) (d:List UInt8) (pa:Option Addr) (pl pc:Nat) (hd15:d.length≤1500) :
  Calls Tryz.prog 18 #[.pointer (some ⟨gs,0,none⟩),.agg #[.int .i64 ask,.int .i64 m,.int .i64 at_,Qv d,.slice pa pl pc]] w (XL B gs gd gr c w):=by
 have h0:=h;have hBq:=h.hB;have hgsl:gs<w.heap.size:=h.blk.lt;have hgsB:B≤gs:=h.gs_.1;have hok:=hG.good.ok;have hbud:DBud D:=hG.good.bud Qb;have h32:(sha d).length=32:=JD d;have hpl:=XQ hok m;have hpS:=hpl.2.2.s32;have hml:=JQ (QB D m).1.l
 refine Qj (args:=[.pointer (some ⟨gs,0,none⟩),.agg #[.int .i64 ask,.int .i64 m,.int .i64 at_,Qv d,.slice pa pl pc]]) 140 Tryz.func18 Z Z Z<|Qt [(0,.pointer (some ⟨gs,0,none⟩)),(1,.agg #[.int .i64 ask,.int .i64 m,.int .i64 at_,Qv d,.slice pa pl pc])] ?_ ⟨Z,Z,tvA⟩
 have hcw:=Chg.refl (fun k=>k=gs∨w.heap.size≤k) w
 refine Qa<|J1 Z Z (fun g3 w1 hB3 hg3 hb hl3=>?_)
 replace hcw:=hcw.then_below hb;replace h:=h.add hb [g3] (fun g_ hg_=>by rw [List.mem_singleton.1 hg_]; exact ⟨hg3,hl3⟩);have hoB3:=(h.mem (g:=g3) Q0).1;replace hT:=hT.bel hb;have zz1:=hb.size;clear hb
 refine sa Z Z<|Wn<|tN<|Qe<|Qa<|st (Qk Vx Z) Z<|st (Qi Z hB3 uz3 Z Z) Z<|st (QL Z Z) Z<|Wn<|tN<|Qx Z (fun h16=>?_) (fun h16=>?_)
 ·replace h16:=Qs h16;refine QS (fun G=>Blk G gs 41 (ZW gd gr pw pp is n uL cl fL fg fw pn po)∧Blk G g3 44 #[.int .i64 ask,.int .i64 m,.int .i64 at_,Qv d,.slice pa pl pc]) [0,1,2,3,4,5,6,7,8,9,10,11] [Y,Y,Y,Y,Y,Y,false,Y,Y,Y,Y,Y] Qo Qo (⟨h.blk.drew,hB3.drew⟩) ?_;obtain ⟨w2,hw_,hb⟩:=QN w1;rw [← hw_];clear hw_;have hS:=hb;replace hcw:=hcw.then_below hb;replace h:=h.bel hb;replace hT:=hT.bel hb;replace hB3:=hB3.bel hb;have zz2:=hb.size;clear hb
  refine oY Z (fun G U=>(Qd Z)) Z<|oY Z (fun G U=>(Qc Z)) Z<|oY Z (fun G U=>(Qk XC Z)) Z<|oY Z (fun G U=>(Qi Z U.1 uz23 Z Z)) Z<|oY Z (fun G U=>(Qk J4 Z)) Z<|oY Z (fun G U=>(Qi Z U.2 uz3 Z Z)) Z ?_
  obtain ⟨S,hd,_⟩:=h.dsk;refine oL Z (fun Q_ hQ_ hP_=>(sc _ Tryz.func50 Z Qo Z Z ((xpopen (B:=B) m hd.at_ hok hT).mono ?_)));rintro e_ w3 ⟨p,b1,c1,rfl,hNP,hpe,hb1,hc1,hb⟩;refine cR ?_;replace hcw:=hcw.then_below hb;replace h:=h.bel hb;replace hT:=hT.bel hb;replace hB3:=hB3.bel hb;have zz3:=hb.size;clear hb
  refine Wn<|hQ_ _ _ (⟨h.blk,hB3⟩) ?_
  clear hQ_ hP_ Q_
  refine oY Z (fun G U=>(Qd Z)) Z<|oY Z (fun G U=>(Qu Z Z)) Z<|oY Z (fun G U=>(Qu Z Z)) Z<|oY Z (fun G U=>(Qy Z)) Z<|oY Z (fun G U=>(Qy Z)) Z<|oN<|nN<|Y8 (fun G=>Blk G gs 41 (ZW gd gr pw pp is n uL cl fL fg fw pn po)∧Blk G g3 44 #[.int .i64 ask,.int .i64 m,.int .i64 at_,Qv d,.slice pa pl pc]) (.yes 0 (.yes 1 (.yes 2 (.yes 3 (.yes 4 (.yes 5 (.pick (.alt 6 (.yes 7 (.yes 8 (.yes 9 (.pick (.alt 10 (.pick (.alt 11 (.yes 12 (.nil)) (.no))) (.no)))))) (.alt 10 (.pick (.alt 6 (.yes 7 (.yes 8 (.yes 9 (.pick (.alt 11 (.yes 12 (.nil)) (.no)))))) (.no))) (.no)))))))))) Qo Qo (⟨h.blk.drew,hB3.drew⟩) ?_
  obtain ⟨w4,hw_,hb⟩:=QN w3;rw [← hw_];clear hw_;have hS:=hb;replace hcw:=hcw.then_below hb;replace h:=h.bel hb;replace hT:=hT.bel hb;replace hB3:=hB3.bel hb;replace hNP:=hNP.bel hb;have zz4:=hb.size;clear hb
  refine uY Z (fun G U=>(Qd Z)) Z<|uY Z (fun G U=>(Qc Z)) Z<|uY Z (fun G U=>(Qk ZO Z)) Z<|uY Z (fun G U=>(Qi Z U.1 uz27 Z Z)) Z<|uY Z (fun G U=>(Qk J4 Z)) Z<|uY Z (fun G U=>(Qi Z U.2 uz3 Z Z)) Z<|uP<|uA Z (fun Q_ hQ_ hP_=>?_)<|uA Z (fun Q_ hQ_ hP_=>?_) u0
  ·obtain ⟨R,hr,_⟩:=h.rdsk
   refine sc _ fz51 Z Qo Z Z<|(YO _ _ _ m _ hr.at_ hok hbud).mono ?_
   rintro e_ w5 ⟨u,rfl,hF,hOu,hb⟩;refine cR ?_;replace hcw:=hcw.then_below hb;replace h:=h.bel hb;replace hT:=hT.bel hb;replace hB3:=hB3.bel hb;replace hNP:=hNP.bel hb;have zz5:=hb.size;clear hb
   refine Wn<|hQ_ _ _ (⟨h.blk,hB3⟩) ?_
   clear hQ_ hP_ Q_
   have hul:0<(QB D m).1.l.length→∀ k,u.ownBlock=some k→k<(w5).heap.size:=fun h1 k hk=>Reads.ownLt hF h1 hk
   have huc:u.oneCell'=true:=by obtain ⟨a_,c_,rfl,_⟩:=hF.shape; rfl
   refine uY Z (fun G U=>(Qd Z)) Z<|uY Z (fun G U=>(Qu Z Z)) Z<|uY Z (fun G U=>(Qu Z Z)) Z<|uP<|uA Z (fun Q_ hQ_ hP_=>?_) u0
   refine Jm inf39 Z (fun g7 w6 hB7 hg7 hb hl7=>?_);replace hcw:=hcw.then_below hb;replace h:=h.add hb [g7] (fun g_ hg_=>by rw [List.mem_singleton.1 hg_]; exact ⟨hg7,hl7⟩);have hoB7:=(h.mem (g:=g7) Q0).1;replace hT:=hT.bel hb;replace hB3:=hB3.bel hb;replace hNP:=hNP.bel hb;replace hF:=hF.bel hb;have zz6:=hb.size;clear hb
   refine Wn<|hQ_ _ _ (⟨h.blk,hB3⟩) ?_
   clear hQ_ hP_ Q_
   refine uP<|uA Z (fun Q_ hQ_ hP_=>?_) u0
   refine QY Z Z hB7 siz39 Z (by show (u.oneCell' && _)=true; rw [huc]; rfl) (fun w7 bB cC=>?_)
   have hu7:0<(QB D m).1.l.length→∀ k,u.ownBlock=some k→k≠g7:=by first|(intro h1 k hk e; have:=hOu k hk; omega)|(intro h1 k hk e; have:=hul h1 k hk; omega)
   replace hF:REnts w7 _ _:=Reads.chgS hF cC (fun h1 k hk e=>hu7 h1 k hk e);replace hNP:=hNP.chg cC (fun k hk hx=>by have h1:k=g7:=hk; omega);replace hB7:=bB;replace h:=h.loc Q0 cC;replace hT:=hT.chg cC (fun k hk=>by have h1:k=g7:=hk; omega);replace hB3:=hB3.chg cC (by show ¬g3=g7; omega);replace hcw:=hcw.next cC (fun i hi=>.inr (by have h1:i=g7:=hi; omega));have zz7:=cC.size;clear bB cC
   refine Wn<|hQ_ _ _ (⟨h.blk,hB3⟩) ?_
   clear hQ_ hP_ Q_
   refine uY Z (fun G U=>(Qy Z)) Z<|uN<|nN<|Qa<|sm Z Z<|sm Z Z<|st (Qc Z) Z<|st (Qk Qoa Z) Z<|KL Z Z h.blk siz34 Z (by unfold ZW; simp) (fun w8 bB cC=>?_)
   have hBs:Blk w8 gs 41 (ZW gd gr pw p is n uL cl fL fg fw pn po):=bB;replace hF:REnts w8 _ _:=Reads.chgS hF cC (fun h1 k hk e=>by have h2:k=gs:=e; have:=hOu k hk; omega);replace hNP:=hNP.chg cC (fun k hk hx=>by have h1:k=gs:=hk; omega);replace hT:=hT.chg cC (fun k hk=>by have h1:k=gs:=hk; omega);replace hB3:=hB3.chg cC (by show ¬g3=gs; omega);replace hB7:=hB7.chg cC (by show ¬g7=gs; omega);replace hcw:=hcw.next cC (fun i hi=>.inl (.inl hi));have zz8:=cC.size;clear bB cC h
   refine Wn<|tN<|Qa<|sm Z Z<|st (QE Z hB7 uz39 Z siz39) Z<|st (Qc Z) Z<|st (Qk Qnz Z) Z<|ssBO (ZW gd gr pw p is n uL cl u (QB D m).1.good (QB D m).1.whole pn po) Z Z hBs siz39 (by unfold ZW; simp) (by show (u.oneCell' && _)=true; rw [huc]; rfl) Z (fun w9 bB cC=>?_)
   replace hBs:=bB;replace hF:REnts w9 _ _:=Reads.chgS hF cC (fun h1 k hk e=>by have h2:k=gs:=e; have:=hOu k hk; omega);replace hNP:=hNP.chg cC (fun k hk hx=>by have h1:k=gs:=hk; omega);replace hB3:=hB3.chg cC (by show ¬g3=gs; omega);replace hB7:=hB7.chg cC (by show ¬g7=gs; omega);replace hcw:=hcw.next cC (fun i hi=>.inl (.inl hi));have zz9:=cC.size;clear bB cC hT
   refine Wn<|tN<|Qa<|sm Z Z<|st (Qk J4 Z) Z<|st (Qi Z hB3 uz3 Z Z) Z<|st (Qc Z) Z<|st (Qk Qny Z) Z<|KL Z Z hBs siz3 Z (by unfold ZW; simp) (fun w10 bB cC=>?_)
   replace hBs:Blk w10 gs 41 (ZW gd gr pw p is n uL cl u (QB D m).1.good (QB D m).1.whole m po):=bB;replace hF:REnts w10 _ _:=Reads.chgS hF cC (fun h1 k hk e=>by have h2:k=gs:=e; have:=hOu k hk; omega);replace hNP:=hNP.chg cC (fun k hk hx=>by have h1:k=gs:=hk; omega);replace hB7:=hB7.chg cC (by show ¬g7=gs; omega);replace hcw:=hcw.next cC (fun i hi=>.inl (.inl hi));have zz10:=cC.size;clear bB cC hB3
   refine Wn<|tN<|Qa<|sm Z Z<|sm Z Z<|st (QL Z Z) Z<|st (Qc Z) Z<|st (Qk Qdm Z) Z<|KL Z Z hBs siz4 Z (by unfold ZW; simp) (fun w11 bB cC=>?_)
   replace hBs:Blk w11 gs 41 (ZW gd gr pw p is n uL cl u (QB D m).1.good (QB D m).1.whole m (decide ((QB D m).2=0))):=bB;replace hF:REnts w11 _ _:=Reads.chgS hF cC (fun h1 k hk e=>by have h2:k=gs:=e; have:=hOu k hk; omega);replace hNP:=hNP.chg cC (fun k hk hx=>by have h1:k=gs:=hk; omega);replace hB7:=hB7.chg cC (by show ¬g7=gs; omega);replace hcw:=hcw.next cC (fun i hi=>.inl (.inl hi));have zz11:=cC.size;clear bB cC
   refine Wn<|tN<|QS (fun G=>Blk G gs 41 (ZW gd gr pw p is n uL cl u (QB D m).1.good (QB D m).1.whole m (decide ((QB D m).2=0)))∧Blk G g7 39 #[u,.int .i64 (QB D m).1.good,.bool (QB D m).1.whole]) [0,1,2,3,4,5,6,7,8,9,10,11,12,13,16,17,14,15,18,19,20,21,22,24,25,23,26,27,28,29,31,32,30,33,34,35] [Y,Y,Y,Y,Y,Y,Y,Y,Y,Y,Y,Y,Y,Y,Y,Y,false,false,false,false,Y,Y,Y,Y,Y,false,Y,Y,Y,Y,Y,Y,false,Y,Y,Y] Qo Qo (⟨hBs.drew,hB7.drew⟩) ?_
   obtain ⟨w12,hw_,hb⟩:=QN w11;rw [← hw_];clear hw_;have hS:=hb;replace hcw:=hcw.then_below hb;replace hNP:=hNP.bel hb;replace hF:=hF.bel hb;replace hB7:=hB7.bel hb;replace hBs:=hBs.bel hb;have zz12:=hb.size;clear hb
   refine oY Z (fun G U=>(Qd Z)) Z<|oY Z (fun G U=>(Qd Z)) Z<|oY Z (fun G U=>(QL Z Z)) Z<|oY Z (fun G U=>(Jf (c:=true) Z (decide_eq_true Z))) Z<|Q4 Z Z Z Z (fun G U=>(Qd Z)) Z<|Q4 Z Z Z Z (fun G U=>(Qqf Z)) Z<|Q4 Z Z Z Z (fun G U=>(Qd Z)) Z<|Q4 Z Z Z Z (fun G U=>(Qc Z)) Z<|Q4 Z Z Z Z (fun G U=>(Qk Qdm Z)) Z<|Q4 Z Z Z Z (fun G U=>(Qi Z U.1 uz4 Z Z)) Z<|Q4 Z Z Z Z (fun G U=>(Qfz (c:=true) (.inl ⟨Z,by rw [hpe]; simp⟩) uz4 Z Z)) Z ?_
   refine oY Z (fun G U=>(Qm Z Z)) Z<|oY Z (fun G U=>(Jf (c:=true) Z (Z))) Z<|Q4 Z Z Z Z (fun G U=>(Qd Z)) Z<|Q4 Z Z Z Z (fun G U=>(Qk KH Z)) Z<|Q4 Z Z Z Z (fun G U=>(Qi Z U.2 uz35 Z Z)) Z<|oL Z (fun Q_ hQ_ hP_=>(gY Z Z Z (sc _ fz52 Z Qo Z Z ((xkI hNP hok).mono ?_))))
   rintro e_ w13 ⟨ui,rfl,hE,hb⟩;refine cR ?_;replace hcw:=hcw.then_below hb;replace hNP:=hNP.bel hb;replace hF:=hF.bel hb;replace hB7:=hB7.bel hb;replace hBs:=hBs.bel hb;have zz13:=hb.size;clear hb
   refine Wn<|hQ_ _ _ (⟨hBs,hB7⟩) ?_
   clear hQ_ hP_ Q_;refine oL Z (fun Q_ hQ_ hP_=>(gY Z Z Z (sc _ fz42 Z Qo Z Z ((Zx _ _ _ hE (Q5 hpS) Qb).mono ?_))));rintro e_ w14 ⟨va,rfl,hRa,hOa,hb⟩;refine cR ?_;replace hcw:=hcw.then_below hb;replace hNP:=hNP.bel hb;replace hF:=hF.bel hb;replace hB7:=hB7.bel hb;replace hBs:=hBs.bel hb;replace hE:=hE.bel hb;have zz14:=hb.size;clear hb
   refine Wn<|hQ_ _ _ (⟨hBs,hB7⟩) ?_
   clear hQ_ hP_ Q_;refine oL Z (fun Q_ hQ_ hP_=>(gY Z Z Z (sc _ fz43 Z Qo Z Z ((Z2 _ _ _ hF Qb).mono ?_))));rintro e_ w15 ⟨vs,rfl,hRs,hb⟩;refine cR ?_;replace hcw:=hcw.then_below hb;replace hNP:=hNP.bel hb;replace hF:=hF.bel hb;replace hB7:=hB7.bel hb;replace hBs:=hBs.bel hb;replace hE:=hE.bel hb;replace hRa:=hRa.bel hb;have zz15:=hb.size;clear hb
   refine Wn<|hQ_ _ _ (⟨hBs,hB7⟩) ?_
   clear hQ_ hP_ Q_;refine oL Z (fun Q_ hQ_ hP_=>(gY Z Z Z (sc _ fz40 Z Qo Z Z (Q3 (JN va vs _ _ _ hRa.reads (Q5 hpS) Qb hRs) fun w16 hb=>?_))));replace hcw:=hcw.then_below hb;replace hNP:=hNP.bel hb;replace hF:=hF.bel hb;replace hB7:=hB7.bel hb;replace hBs:=hBs.bel hb;replace hE:=hE.bel hb;replace hRa:=hRa.bel hb;replace hRs:=hRs.bel hb;have zz16:=hb.size;clear hb
   refine Wn<|hQ_ _ _ (⟨hBs,hB7⟩) ?_
   clear hQ_ hP_ Q_
   refine oY Z (fun G U=>(Qm Z Z)) Z<|oY Z (fun G U=>(Jf (c:=true) Z (decide_eq_true Z))) Z<|Q4 Z Z Z Z (fun G U=>(Qd Z)) Z<|Q4 Z Z Z Z (fun G U=>(Qk Qhs Z)) Z<|Q4 Z Z Z Z (fun G U=>(Qi Z U.2 uz4 Z Z)) Z<|oL Z (fun Q_ hQ_ hP_=>(gY Z Z Z (sc _ Tryz.func53 Z Qo Z Z (Q3 (xkW hNP) fun w17 hb=>?_))))
   replace hcw:=hcw.then_below hb;replace hNP:=hNP.bel hb;replace hF:=hF.bel hb;replace hB7:=hB7.bel hb;replace hBs:=hBs.bel hb;replace hE:=hE.bel hb;replace hRa:=hRa.bel hb;replace hRs:=hRs.bel hb;have zz17:=hb.size;clear hb
   refine Wn<|hQ_ _ _ (⟨hBs,hB7⟩) ?_
   clear hQ_ hP_ Q_;refine Q4 Z Z Z Z (fun G U=>(Qfz (c:=true) (.inl ⟨Z,by simp⟩) uz4 Z Z)) Z ?_
   refine oY Z (fun G U=>(Qm Z Z)) Z<|oY Z (fun G U=>(Jf (c:=true) Z (Z))) Z<|Q4 Z Z Z Z (fun G U=>(Qd Z)) Z<|Q4 Z Z Z Z (fun G U=>(Qk XD Z)) Z<|Q4 Z Z Z Z (fun G U=>(Qi Z U.2 uz3 Z Z)) Z<|oL Z (fun Q_ hQ_ hP_=>(gY Z Z Z (sc _ Tryz.func54 Z Qo Z Z (Q3 (xkG hNP) fun w18 hb=>?_))))
   replace hcw:=hcw.then_below hb;replace hNP:=hNP.bel hb;replace hF:=hF.bel hb;replace hB7:=hB7.bel hb;replace hBs:=hBs.bel hb;replace hE:=hE.bel hb;replace hRa:=hRa.bel hb;replace hRs:=hRs.bel hb;have zz18:=hb.size;clear hb
   refine Wn<|hQ_ _ _ (⟨hBs,hB7⟩) ?_
   clear hQ_ hP_ Q_
   refine Q4 Z Z Z Z (fun G U=>(QL Z Z)) Z<|oY Z (fun G U=>(Qm Z Z)) Z<|oY Z (fun G U=>(Qy Z)) Z<|oN<|nN<|Qg<|tR ?_
   rw [decide_eq_true rfl];refine (rT Z Z ((h0.reopen hcw hBs huc (P2:=if (QB D m).2=0 then some (m,(QB D m).1) else none) fun q col hq=>?_).done0 hG.mono hcw hgsB hBq)).1
   by_cases h1:(QB D m).2=0
   ·rw [if_pos h1];obtain ⟨gp,gx,gm,v,hp,hA,hbk⟩:=hNP.2 h1;exact ⟨gp,gx,gm,v,hp,decide_eq_true h1,Z,Z,Z,hA,hpl.2.1,hpl.1,fun k hk=>by have h2:=hbk k hk; have h3:=hq k Qb (hA.lts k hk); exact ⟨h3.1,by omega,h3.2⟩,hF,fun h2 k hk=>by have h3:=hOu k hk; have h4:=hq k Qb (Reads.ownLt hF h2 hk); exact ⟨h4.1,by omega,h4.2⟩⟩
   ·rw [if_neg h1];exact ⟨hNP.1 h1,decide_eq_false h1⟩
  ·refine Jm inf39 Z (fun g7 w19 hB7 hg7 hb hl7=>?_);replace hcw:=hcw.then_below hb;replace h:=h.add hb [g7] (fun g_ hg_=>by rw [List.mem_singleton.1 hg_]; exact ⟨hg7,hl7⟩);have hoB7:=(h.mem (g:=g7) Q0).1;replace hT:=hT.bel hb;replace hB3:=hB3.bel hb;replace hNP:=hNP.bel hb;have zz19:=hb.size;clear hb
   refine Wn<|hQ_ _ _ (⟨h.blk,hB3⟩) ?_
   clear hQ_ hP_ Q_
   refine uP<|uA Z (fun Q_ hQ_ hP_=>?_) u0
   obtain ⟨R,hr,_⟩:=h.rdsk
   refine sc _ fz51 Z Qo Z Z<|(YO _ _ _ m _ hr.at_ hok hbud).mono ?_
   rintro e_ w20 ⟨u,rfl,hF,hOu,hb⟩;refine cR ?_;replace hcw:=hcw.then_below hb;replace h:=h.bel hb;replace hT:=hT.bel hb;replace hB3:=hB3.bel hb;replace hNP:=hNP.bel hb;replace hB7:=hB7.bel hb;have zz20:=hb.size;clear hb
   refine Wn<|hQ_ _ _ (⟨h.blk,hB3⟩) ?_
   clear hQ_ hP_ Q_
   have hul:0<(QB D m).1.l.length→∀ k,u.ownBlock=some k→k<(w20).heap.size:=fun h1 k hk=>Reads.ownLt hF h1 hk
   have huc:u.oneCell'=true:=by obtain ⟨a_,c_,rfl,_⟩:=hF.shape; rfl
   refine uY Z (fun G U=>(Qd Z)) Z<|uY Z (fun G U=>(Qu Z Z)) Z<|uY Z (fun G U=>(Qu Z Z)) Z<|uP<|uA Z (fun Q_ hQ_ hP_=>?_) u0
   refine QY Z Z hB7 siz39 Z (by show (u.oneCell' && _)=true; rw [huc]; rfl) (fun w21 bB cC=>?_)
   have hu7:0<(QB D m).1.l.length→∀ k,u.ownBlock=some k→k≠g7:=by first|(intro h1 k hk e; have:=hOu k hk; omega)|(intro h1 k hk e; have:=hul h1 k hk; omega)
   replace hF:REnts w21 _ _:=Reads.chgS hF cC (fun h1 k hk e=>hu7 h1 k hk e);replace hNP:=hNP.chg cC (fun k hk hx=>by have h1:k=g7:=hk; omega);replace hB7:=bB;replace h:=h.loc Q0 cC;replace hT:=hT.chg cC (fun k hk=>by have h1:k=g7:=hk; omega);replace hB3:=hB3.chg cC (by show ¬g3=g7; omega);replace hcw:=hcw.next cC (fun i hi=>.inr (by have h1:i=g7:=hi; omega));have zz21:=cC.size;clear bB cC
   refine Wn<|hQ_ _ _ (⟨h.blk,hB3⟩) ?_
   clear hQ_ hP_ Q_
   refine uY Z (fun G U=>(Qy Z)) Z<|uN<|nN<|Qa<|sm Z Z<|sm Z Z<|st (Qc Z) Z<|st (Qk Qoa Z) Z<|KL Z Z h.blk siz34 Z (by unfold ZW; simp) (fun w22 bB cC=>?_)
   have hBs:Blk w22 gs 41 (ZW gd gr pw p is n uL cl fL fg fw pn po):=bB;replace hF:REnts w22 _ _:=Reads.chgS hF cC (fun h1 k hk e=>by have h2:k=gs:=e; have:=hOu k hk; omega);replace hNP:=hNP.chg cC (fun k hk hx=>by have h1:k=gs:=hk; omega);replace hT:=hT.chg cC (fun k hk=>by have h1:k=gs:=hk; omega);replace hB3:=hB3.chg cC (by show ¬g3=gs; omega);replace hB7:=hB7.chg cC (by show ¬g7=gs; omega);replace hcw:=hcw.next cC (fun i hi=>.inl (.inl hi));have zz22:=cC.size;clear bB cC h
   refine Wn<|tN<|Qa<|sm Z Z<|st (QE Z hB7 uz39 Z siz39) Z<|st (Qc Z) Z<|st (Qk Qnz Z) Z<|ssBO (ZW gd gr pw p is n uL cl u (QB D m).1.good (QB D m).1.whole pn po) Z Z hBs siz39 (by unfold ZW; simp) (by show (u.oneCell' && _)=true; rw [huc]; rfl) Z (fun w23 bB cC=>?_)
   replace hBs:=bB;replace hF:REnts w23 _ _:=Reads.chgS hF cC (fun h1 k hk e=>by have h2:k=gs:=e; have:=hOu k hk; omega);replace hNP:=hNP.chg cC (fun k hk hx=>by have h1:k=gs:=hk; omega);replace hB3:=hB3.chg cC (by show ¬g3=gs; omega);replace hB7:=hB7.chg cC (by show ¬g7=gs; omega);replace hcw:=hcw.next cC (fun i hi=>.inl (.inl hi));have zz23:=cC.size;clear bB cC hT
   refine Wn<|tN<|Qa<|sm Z Z<|st (Qk J4 Z) Z<|st (Qi Z hB3 uz3 Z Z) Z<|st (Qc Z) Z<|st (Qk Qny Z) Z<|KL Z Z hBs siz3 Z (by unfold ZW; simp) (fun w24 bB cC=>?_)
   replace hBs:Blk w24 gs 41 (ZW gd gr pw p is n uL cl u (QB D m).1.good (QB D m).1.whole m po):=bB;replace hF:REnts w24 _ _:=Reads.chgS hF cC (fun h1 k hk e=>by have h2:k=gs:=e; have:=hOu k hk; omega);replace hNP:=hNP.chg cC (fun k hk hx=>by have h1:k=gs:=hk; omega);replace hB7:=hB7.chg cC (by show ¬g7=gs; omega);replace hcw:=hcw.next cC (fun i hi=>.inl (.inl hi));have zz24:=cC.size;clear bB cC hB3
   refine Wn<|tN<|Qa<|sm Z Z<|sm Z Z<|st (QL Z Z) Z<|st (Qc Z) Z<|st (Qk Qdm Z) Z<|KL Z Z hBs siz4 Z (by unfold ZW; simp) (fun w25 bB cC=>?_)
   replace hBs:Blk w25 gs 41 (ZW gd gr pw p is n uL cl u (QB D m).1.good (QB D m).1.whole m (decide ((QB D m).2=0))):=bB;replace hF:REnts w25 _ _:=Reads.chgS hF cC (fun h1 k hk e=>by have h2:k=gs:=e; have:=hOu k hk; omega);replace hNP:=hNP.chg cC (fun k hk hx=>by have h1:k=gs:=hk; omega);replace hB7:=hB7.chg cC (by show ¬g7=gs; omega);replace hcw:=hcw.next cC (fun i hi=>.inl (.inl hi));have zz25:=cC.size;clear bB cC
   refine Wn<|tN<|QS (fun G=>Blk G gs 41 (ZW gd gr pw p is n uL cl u (QB D m).1.good (QB D m).1.whole m (decide ((QB D m).2=0)))∧Blk G g7 39 #[u,.int .i64 (QB D m).1.good,.bool (QB D m).1.whole]) [0,1,2,3,4,5,6,7,8,9,10,11,12,13,16,17,14,15,18,19,20,21,22,24,25,23,26,27,28,29,31,32,30,33,34,35] [Y,Y,Y,Y,Y,Y,Y,Y,Y,Y,Y,Y,Y,Y,Y,Y,false,false,false,false,Y,Y,Y,Y,Y,false,Y,Y,Y,Y,Y,Y,false,Y,Y,Y] Qo Qo (⟨hBs.drew,hB7.drew⟩) ?_
   obtain ⟨w26,hw_,hb⟩:=QN w25;rw [← hw_];clear hw_;have hS:=hb;replace hcw:=hcw.then_below hb;replace hNP:=hNP.bel hb;replace hB7:=hB7.bel hb;replace hF:=hF.bel hb;replace hBs:=hBs.bel hb;have zz26:=hb.size;clear hb
   refine oY Z (fun G U=>(Qd Z)) Z<|oY Z (fun G U=>(Qd Z)) Z<|oY Z (fun G U=>(QL Z Z)) Z<|oY Z (fun G U=>(Jf (c:=true) Z (decide_eq_true Z))) Z<|Q4 Z Z Z Z (fun G U=>(Qd Z)) Z<|Q4 Z Z Z Z (fun G U=>(Qqf Z)) Z<|Q4 Z Z Z Z (fun G U=>(Qd Z)) Z<|Q4 Z Z Z Z (fun G U=>(Qc Z)) Z<|Q4 Z Z Z Z (fun G U=>(Qk Qdm Z)) Z<|Q4 Z Z Z Z (fun G U=>(Qi Z U.1 uz4 Z Z)) Z<|Q4 Z Z Z Z (fun G U=>(Qfz (c:=true) (.inl ⟨Z,by rw [hpe]; simp⟩) uz4 Z Z)) Z ?_
   refine oY Z (fun G U=>(Qm Z Z)) Z<|oY Z (fun G U=>(Jf (c:=true) Z (Z))) Z<|Q4 Z Z Z Z (fun G U=>(Qd Z)) Z<|Q4 Z Z Z Z (fun G U=>(Qk KH Z)) Z<|Q4 Z Z Z Z (fun G U=>(Qi Z U.2 uz35 Z Z)) Z<|oL Z (fun Q_ hQ_ hP_=>(gY Z Z Z (sc _ fz52 Z Qo Z Z ((xkI hNP hok).mono ?_))))
   rintro e_ w27 ⟨ui,rfl,hE,hb⟩;refine cR ?_;replace hcw:=hcw.then_below hb;replace hNP:=hNP.bel hb;replace hB7:=hB7.bel hb;replace hF:=hF.bel hb;replace hBs:=hBs.bel hb;have zz27:=hb.size;clear hb
   refine Wn<|hQ_ _ _ (⟨hBs,hB7⟩) ?_
   clear hQ_ hP_ Q_;refine oL Z (fun Q_ hQ_ hP_=>(gY Z Z Z (sc _ fz42 Z Qo Z Z ((Zx _ _ _ hE (Q5 hpS) Qb).mono ?_))));rintro e_ w28 ⟨va,rfl,hRa,hOa,hb⟩;refine cR ?_;replace hcw:=hcw.then_below hb;replace hNP:=hNP.bel hb;replace hB7:=hB7.bel hb;replace hF:=hF.bel hb;replace hBs:=hBs.bel hb;replace hE:=hE.bel hb;have zz28:=hb.size;clear hb
   refine Wn<|hQ_ _ _ (⟨hBs,hB7⟩) ?_
   clear hQ_ hP_ Q_;refine oL Z (fun Q_ hQ_ hP_=>(gY Z Z Z (sc _ fz43 Z Qo Z Z ((Z2 _ _ _ hF Qb).mono ?_))));rintro e_ w29 ⟨vs,rfl,hRs,hb⟩;refine cR ?_;replace hcw:=hcw.then_below hb;replace hNP:=hNP.bel hb;replace hB7:=hB7.bel hb;replace hF:=hF.bel hb;replace hBs:=hBs.bel hb;replace hE:=hE.bel hb;replace hRa:=hRa.bel hb;have zz29:=hb.size;clear hb
   refine Wn<|hQ_ _ _ (⟨hBs,hB7⟩) ?_
   clear hQ_ hP_ Q_;refine oL Z (fun Q_ hQ_ hP_=>(gY Z Z Z (sc _ fz40 Z Qo Z Z (Q3 (JN va vs _ _ _ hRa.reads (Q5 hpS) Qb hRs) fun w30 hb=>?_))));replace hcw:=hcw.then_below hb;replace hNP:=hNP.bel hb;replace hB7:=hB7.bel hb;replace hF:=hF.bel hb;replace hBs:=hBs.bel hb;replace hE:=hE.bel hb;replace hRa:=hRa.bel hb;replace hRs:=hRs.bel hb;have zz30:=hb.size;clear hb
   refine Wn<|hQ_ _ _ (⟨hBs,hB7⟩) ?_
   clear hQ_ hP_ Q_
   refine oY Z (fun G U=>(Qm Z Z)) Z<|oY Z (fun G U=>(Jf (c:=true) Z (decide_eq_true Z))) Z<|Q4 Z Z Z Z (fun G U=>(Qd Z)) Z<|Q4 Z Z Z Z (fun G U=>(Qk Qhs Z)) Z<|Q4 Z Z Z Z (fun G U=>(Qi Z U.2 uz4 Z Z)) Z<|oL Z (fun Q_ hQ_ hP_=>(gY Z Z Z (sc _ Tryz.func53 Z Qo Z Z (Q3 (xkW hNP) fun w31 hb=>?_))))
   replace hcw:=hcw.then_below hb;replace hNP:=hNP.bel hb;replace hB7:=hB7.bel hb;replace hF:=hF.bel hb;replace hBs:=hBs.bel hb;replace hE:=hE.bel hb;replace hRa:=hRa.bel hb;replace hRs:=hRs.bel hb;have zz31:=hb.size;clear hb
   refine Wn<|hQ_ _ _ (⟨hBs,hB7⟩) ?_
   clear hQ_ hP_ Q_;refine Q4 Z Z Z Z (fun G U=>(Qfz (c:=true) (.inl ⟨Z,by simp⟩) uz4 Z Z)) Z ?_
   refine oY Z (fun G U=>(Qm Z Z)) Z<|oY Z (fun G U=>(Jf (c:=true) Z (Z))) Z<|Q4 Z Z Z Z (fun G U=>(Qd Z)) Z<|Q4 Z Z Z Z (fun G U=>(Qk XD Z)) Z<|Q4 Z Z Z Z (fun G U=>(Qi Z U.2 uz3 Z Z)) Z<|oL Z (fun Q_ hQ_ hP_=>(gY Z Z Z (sc _ Tryz.func54 Z Qo Z Z (Q3 (xkG hNP) fun w32 hb=>?_))))
   replace hcw:=hcw.then_below hb;replace hNP:=hNP.bel hb;replace hB7:=hB7.bel hb;replace hF:=hF.bel hb;replace hBs:=hBs.bel hb;replace hE:=hE.bel hb;replace hRa:=hRa.bel hb;replace hRs:=hRs.bel hb;have zz32:=hb.size;clear hb
   refine Wn<|hQ_ _ _ (⟨hBs,hB7⟩) ?_
   clear hQ_ hP_ Q_
   refine Q4 Z Z Z Z (fun G U=>(QL Z Z)) Z<|oY Z (fun G U=>(Qm Z Z)) Z<|oY Z (fun G U=>(Qy Z)) Z<|oN<|nN<|Qg<|tR ?_
   rw [decide_eq_true rfl];refine (rT Z Z ((h0.reopen hcw hBs huc (P2:=if (QB D m).2=0 then some (m,(QB D m).1) else none) fun q col hq=>?_).done0 hG.mono hcw hgsB hBq)).1
   by_cases h1:(QB D m).2=0
   ·rw [if_pos h1];obtain ⟨gp,gx,gm,v,hp,hA,hbk⟩:=hNP.2 h1;exact ⟨gp,gx,gm,v,hp,decide_eq_true h1,Z,Z,Z,hA,hpl.2.1,hpl.1,fun k hk=>by have h2:=hbk k hk; have h3:=hq k Qb (hA.lts k hk); exact ⟨h3.1,by omega,h3.2⟩,hF,fun h2 k hk=>by have h3:=hOu k hk; have h4:=hq k Qb (Reads.ownLt hF h2 hk); exact ⟨h4.1,by omega,h4.2⟩⟩
   ·rw [if_neg h1];exact ⟨hNP.1 h1,decide_eq_false h1⟩
 ·replace h16:=Qs h16
  refine Qf<|tN<|Qa<|st (Qk Vw Z) Z<|st (Qi Z hB3 uz9 Z Z) Z<|sc _ fz14 Z Qo Z Z (Q3 (Hg d _ hT.sha Qb) fun w33 hb=>?_)
  replace hcw:=hcw.then_below hb;replace h:=h.bel hb;replace hT:=hT.bel hb;replace hB3:=hB3.bel hb;have zz33:=hb.size;clear hb;refine Jm inf57 Z (fun g9 w34 hB9 hg9 hb hl9=>?_);replace hcw:=hcw.then_below hb;replace h:=h.add hb [g9] (fun g_ hg_=>by rw [List.mem_singleton.1 hg_]; exact ⟨hg9,hl9⟩);have hoB9:=(h.mem (g:=g9) Q0).1;replace hT:=hT.bel hb;replace hB3:=hB3.bel hb;have zz34:=hb.size;clear hb;refine QY Z Z hB9 (by rw [Jn h32]; exact siz57) (by rw [Jn h32]; rfl) (Vf _) (fun w35 bB cC=>?_);replace hB9:=bB;clear bB;replace h:=h.loc Q0 cC;replace hT:=hT.chg cC Z5;replace hB3:=hB3.chg cC Z5;replace hcw:=hcw.next cC KO;have zz35:=cC.size;clear cC
  refine Wn<|tN<|QS (fun G=>Blk G gs 41 (ZW gd gr pw pp is n uL cl fL fg fw pn po)∧Blk G g9 57 ((sha d).map bv).toArray) [0,1,2,3,4,5,6,7,8,9,10] [Y,Y,Y,Y,Y,false,Y,Y,Y,Y,Y] Qo Qo (⟨h.blk.drew,hB9.drew⟩) ?_
  obtain ⟨w36,hw_,hb⟩:=QN w35;rw [← hw_];clear hw_;have hS:=hb;replace hcw:=hcw.then_below hb;replace h:=h.bel hb;replace hT:=hT.bel hb;replace hB3:=hB3.bel hb;replace hB9:=hB9.bel hb;have zz36:=hb.size;clear hb
  refine oY Z (fun G U=>(Qd Z)) Z<|oY Z (fun G U=>(Qc Z)) Z<|oY Z (fun G U=>(Qk Qoa Z)) Z<|oY Z (fun G U=>(Qi Z U.1 Tryz.underlying34 Z Z)) Z<|oY Z (fun G U=>(QE Z U.2 uz57 Z (by rw [Jn h32]; exact siz57))) Z ?_
  refine oL Z (fun Q_ hQ_ hP_=>(sc _ Tryz.func55 Z Qo Z Z (Q3 (xget h (sha d) h32 hok hT) fun w37 hb=>?_)));replace hcw:=hcw.then_below hb;replace h:=h.bel hb;replace hT:=hT.bel hb;replace hB3:=hB3.bel hb;replace hB9:=hB9.bel hb;have zz37:=hb.size;clear hb
  refine Wn<|hQ_ _ _ (⟨h.blk,hB9⟩) ?_
  clear hQ_ hP_ Q_
  refine oY Z (fun G U=>(Qd Z)) Z<|oY Z (fun G U=>(Qu Z Z)) Z<|oY Z (fun G U=>(Qu Z Z)) Z<|oY Z (fun G U=>(Qy Z)) Z<|oY Z (fun G U=>(Qy Z)) Z<|oN<|nN<|Qe<|Qa<|sm Z Z<|st (Qc Z) Z<|st (Qk Qdm Z) Z<|st (Qi Z h.blk uz4 Z Z) Z<|st (Jk Z) Z<|Wn<|tN<|Qx Z (fun h106=>?_) (fun h106=>?_)
  ·replace h106:=Qs h106
   obtain rfl:P=none:=by cases P with|none=>rfl|some q=>obtain ⟨_,_,_,_,_,e,_⟩:=h.pak; rw [e] at h106; simp at h106
   refine Qa<|sm Z Z<|st (KR Z Z) Z<|UP Z (decide_eq_true Z) Z<|gY Z Z Z<|sm Z Z<|gY Z Z Z<|st (QL Z Z) Z<|st (Qm Z Z) Z<|sa Z Z<|Wn<|tN<|Qg<|tR ?_
   exact (rT Z Z (h.done0 hG.mono hcw hgsB hBq)).1
  ·replace h106:=Qs h106
   obtain ⟨p,rfl⟩:∃ q,P=some q:=by cases P with|none=>rw [h.pkn.2] at h106; exact absurd h106 Q0|some q=>exact ⟨q,rfl⟩
   obtain ⟨gp,gx,gm,v,rfl,rfl,rfl,rfl,rfl,_⟩:=h.pak
   refine Qf<|tN<|QS (fun G=>Blk G gs 41 (ZW gd gr pw (some ⟨gp,0,none⟩) is n uL cl fL p.2.good p.2.whole p.1 true)∧Blk G g3 44 #[.int .i64 ask,.int .i64 m,.int .i64 at_,Qv d,.slice pa pl pc]) [0,1,2,3,4,5,6,7,8,9,10,11,12,13,14,15,16,17,18,19,20] [Y,Y,Y,Y,Y,Y,Y,Y,Y,Y,Y,Y,Y,Y,false,false,Y,Y,Y,Y,Y] Qo Qo (⟨h.blk.drew,hB3.drew⟩) ?_
   obtain ⟨w38,hw_,hb⟩:=QN w37;rw [← hw_];clear hw_;have hS:=hb;replace hcw:=hcw.then_below hb;replace h:=h.bel hb;replace hT:=hT.bel hb;replace hB3:=hB3.bel hb;replace hB9:=hB9.bel hb;have zz38:=hb.size;clear hb
   refine oY Z (fun G U=>(Qd Z)) Z<|oY Z (fun G U=>(Qc Z)) Z<|oY Z (fun G U=>(Qk ZO Z)) Z<|oY Z (fun G U=>(Qi Z U.1 uz27 Z Z)) Z<|oY Z (fun G U=>(Qd Z)) Z<|oY Z (fun G U=>(Qc Z)) Z<|oY Z (fun G U=>(Qk Qny Z)) Z<|oY Z (fun G U=>(Qi Z U.1 uz3 Z Z)) Z<|oY Z (fun G U=>(Qd Z)) Z<|oY Z (fun G U=>(Qc Z)) Z<|oY Z (fun G U=>(Qk Qnz Z)) Z<|oY Z (fun G U=>(Jw (cs:=[fL,.int .i64 p.2.good,.bool p.2.whole]) Z uz39 Z siz39 (U.1.mid Z))) Z<|oY Z (fun G U=>(Qk Vw Z)) Z<|oY Z (fun G U=>(Qi Z U.2 uz9 Z Z)) Z<|oL Z (fun Q_ hQ_ hP_=>(sc _ fz57 Z Qo Z Z (Q3 (XK d _ Qb) fun w39 hb=>?_)))
   replace hcw:=hcw.then_below hb;replace h:=h.bel hb;replace hT:=hT.bel hb;replace hB3:=hB3.bel hb;replace hB9:=hB9.bel hb;have zz39:=hb.size;clear hb
   refine Wn<|hQ_ _ _ (⟨h.blk,hB3⟩) ?_
   clear hQ_ hP_ Q_;obtain ⟨R,hr,_⟩:=h.rdsk;obtain ⟨_,_,_,_,_,_,_,_,_,hPA,hEO,_,hRE⟩:=h.pak;refine oL Z (fun Q_ hQ_ hP_=>(sc _ Tryz.func56 Z Qo Z Z (Q3 (Qxc _ _ _ _ _ fL p.2 (sha d) hr.at_ hok hbud hRE hEO) fun w40 hb=>?_)));replace hcw:=hcw.then_below hb;replace h:=h.bel hb;replace hT:=hT.bel hb;replace hB3:=hB3.bel hb;replace hB9:=hB9.bel hb;have zz40:=hb.size;clear hb
   refine Wn<|hQ_ _ _ (⟨h.blk,hB3⟩) ?_
   clear hQ_ hP_ Q_
   refine oY Z (fun G U=>(Qd Z)) Z<|oY Z (fun G U=>(Qu Z Z)) Z<|oY Z (fun G U=>(Qu Z Z)) Z<|oY Z (fun G U=>(Qy Z)) Z<|oY Z (fun G U=>(Qy Z)) Z<|oN<|nN<|Qa<|sm Z Z<|sm Z Z<|st (KR Z Z) Z<|UP Z (decide_eq_true Z) Z<|gY Z Z Z<|sm Z Z<|gY Z Z Z<|sm Z Z<|gY Z Z Z<|st (QL Z Z) Z<|st (Qm Z Z) Z<|sa Z Z<|Wn<|tN<|Qg ?_
   rw [show getA D (sha d) (some p)=Yw D p.1 p.2.l (sha d) from rfl,decide_eq_true rfl];exact (rT Z Z (h.done0 hG.mono hcw hgsB hBq)).1
end
end
section
open Go.RowKit
def RIdxO (w:World) (r:List Ent×Int) (e:Ending) (w':World):Prop:=∃ v,e=.returned (.tuple #[v,.int .i64 r.2])∧REnts w' v r.1∧(∀ k,v.ownBlock=some k→w.heap.size≤k∧k<w'.heap.size)∧Below w.heap.size w w'
theorem Uy {w w':World} {r:List Ent×Int} {k:Int} (h:r=([],k)) (hb:Below w.heap.size w w'):RIdxO w r (.returned (.tuple #[.slice none 0 0,.int .i64 k])) w':=by
 subst h;exact ⟨_,Z,REnts.nil _,fun k hk=>by simp [Value.ownBlock] at hk,hb⟩
theorem Qox (v:Value) (l:List Ent) (w:World) (h:REnts w v l) (hl:l.length≤1000000):Calls Tryz.prog 92 #[v] w (RIdxO w (Jb l)):=by
 obtain ⟨a,cp,rfl,hn,hcp⟩:=h.shape
 refine Qj (args:=[.slice a l.length cp]) 107 Tryz.func92 Z Z Z<|Qt [(0,.slice a l.length cp)] ?_ ⟨Z,tvA⟩
 have bw:=Below.refl w.heap.size w
 refine Qa<|sa Z Z<|sa Z Z<|Wn<|tN<|Qe<|Qa<|sm Z Z<|st (QT Z Z uz35) Z<|st (Jg Z Z) Z<|Wn<|tN<|Qx Z (fun h12=>?_) (fun h12=>?_)
 ·replace h12:=Qs h12
  refine Qa<|sa Z Z<|sa Z Z<|Wn<|tN<|Qg<|tR ?_
  exact (J6 Z Z Z (Uy (Qgy Qb) bw)).1
 ·replace h12:=Qs h12
  refine Qf<|tN<|Qe<|Qa<|sa Z Z<|Wn<|tN<|Qp<|JG (fun nw1_ lw1_ w1=>∃ j:Nat,nw1_=l.length-j∧lw1_=([(0,.slice a l.length cp),(4,.int .i64 j)]:Env)∧(j≤l.length)∧(l.all Ze=(l.drop j).all Ze)∧(Below w.heap.size w w1)) _ ⟨_,⟨0,Z,Z,by omega,Z,bw⟩,⟨Z,Z,tvA⟩⟩ ?_
  clear bw;rintro nw1_ lw1_ w1 ⟨j,rfl,rfl,hj,hq,bw⟩;have zz1:=bw.size
  refine Qe<|Qa<|sm Z Z<|sm Z Z<|st (QT Z Z uz35) Z<|st (QJ Z Z) Z<|Wn<|tN<|Qx Z (fun h16=>?_) (fun h16=>?_)
  ·replace h16:=Qs h16
   obtain ⟨x,hx⟩:∃ x,l[j]?=some x:=⟨_,List.getElem?_eq_getElem Qb⟩
   obtain ⟨g1,o1,c',hv,hg1⟩:=(h.bel bw).some_ Qb;injection hv with e1 _ e3;subst e1 e3
   refine Qf<|tN<|Qe<|Qp<|Qa<|sm Z Z<|sm Z Z<|st (QA Z Z uz35 siz95 Z Qb) Z<|st (Qk Qnu Z) Z<|st (JS Z uz3 Z (REnts.range (h.bel bw) hx 1 _ Z)) Z<|sc _ fz132 Z Qo Z Z (Q3 (YL x.pack _) fun w2 hb=>?_)
   replace bw:=Ql bw hb;have zz2:=hb.size;clear hb
   refine st (Jk Z) Z<|sb Z Z (fun h26=>?_) (fun h26=>?_)
   ·replace h26:=Qs h26
    refine gN Z Z Z Z<|gN Z Z Z Z<|gN Z Z Z Z<|gN Z Z Z Z<|gN Z Z Z Z<|gN Z Z Z Z<|gN Z Z Z Z<|st (Qm Z Z) Z<|sm Z Z<|gN Z Z Z Z<|gN Z Z Z Z<|gN Z Z Z Z<|gN Z Z Z Z<|gN Z Z Z Z<|gN Z Z Z Z<|gN Z Z Z Z<|st (Qm Z Z) Z<|Wn<|tN<|QO Z (Z)<|Qa<|sa Z Z<|sa Z Z<|Wn<|tN<|Qg<|bR<|tR<|tR<|bR<|tR ?_
    have hfx:Ze x=false:=by unfold Ze YD; rw [decide_eq_false h26]; rfl
    exact (J6 Z Z Z (Uy (Vn Qb (by rw [hq,Yb hx,hfx]; rfl)) bw)).1
   ·replace h26:=Qs h26
    refine gY Z Z Z<|sm Z Z<|gY Z Z Z<|sm Z Z<|gY Z Z Z<|st (QA Z Z uz35 siz95 Z Qb) Z<|gY Z Z Z<|st (Qk Qdh Z) Z<|gY Z Z Z<|st (JS Z uz3 Z (REnts.range (h.bel bw) hx 2 _ Z)) Z<|gY Z Z Z<|sc _ fz132 Z Qo Z Z (Q3 (YL x.pos _) fun w3 hb=>?_)
    replace bw:=Ql bw hb;have zz3:=hb.size;clear hb
    refine gY Z Z Z<|st (Jk Z) Z<|st (Qq Z Z) Z<|sb Z Z (fun h35=>?_) (fun h35=>?_)
    ·replace h35:=Qs h35
     refine gN Z Z Z Z<|gN Z Z Z Z<|gN Z Z Z Z<|gN Z Z Z Z<|gN Z Z Z Z<|gN Z Z Z Z<|gN Z Z Z Z<|st (Qm Z Z) Z<|Wn<|tN<|QO Z (Z)<|Qa<|sa Z Z<|sa Z Z<|Wn<|tN<|Qg<|bR<|tR<|tR<|bR<|tR ?_
     have hfx:Ze x=false:=by unfold Ze YD; rw [decide_eq_false h35,Bool.and_false,Bool.false_and]
     exact (J6 Z Z Z (Uy (Vn Qb (by rw [hq,Yb hx,hfx]; rfl)) bw)).1
    ·replace h35:=Qs h35
     refine gY Z Z Z<|sm Z Z<|gY Z Z Z<|sm Z Z<|gY Z Z Z<|st (QA Z Z uz35 siz95 Z Qb) Z<|gY Z Z Z<|st (Qk Qhl Z) Z<|gY Z Z Z<|st (JS Z uz3 Z (REnts.range (h.bel bw) hx 3 _ Z)) Z<|gY Z Z Z<|sc _ fz132 Z Qo Z Z (Q3 (YL x.len _) fun w4 hb=>?_)
     replace bw:=Ql bw hb;have zz4:=hb.size;clear hb
     refine gY Z Z Z<|st (Jk Z) Z<|st (Qq Z Z) Z<|Wn<|tN<|Qx Z (fun h43=>?_) (fun h43=>?_)
     ·replace h43:=Qs h43
      refine Qa<|sa Z Z<|sa Z Z<|Wn<|tN<|Qg<|bR<|tR<|tR<|bR<|tR ?_
      have hfx:Ze x=false:=by unfold Ze YD; rw [decide_eq_false h43,Bool.and_false]
      exact (J6 Z Z Z (Uy (Vn Qb (by rw [hq,Yb hx,hfx]; rfl)) bw)).1
     ·replace h43:=Qs h43
      have hfx:Ze x=true:=by unfold Ze YD; rw [decide_eq_true h26,decide_eq_true h35,decide_eq_true h43]; rfl
      refine Qf<|bN<|tN<|Qw<|sm Z Z<|st (Qn Z Z Qb) Z<|sa Z Z<|Wn<|tN ⟨_,_,?_,⟨j+1,Z,Z,by omega,by rw [hq,Yb hx,hfx]; rfl,bw⟩,⟨Z,Z,tvA⟩⟩
      omega
  ·replace h16:=Qs h16
   obtain rfl:j=l.length:=by omega
   rw [List.drop_length] at hq;have hfit:l.all Ze=true:=hq.trans rfl
   refine QQ<|tE<|tE<|bH<|tN<|Qa<|sa Z Z<|Wn<|tN<|Qe<|Qa<|sa Z Z<|Wn<|tN<|Qp<|JG (fun nw5_ lw5_ w5=>∃ i:Nat,∃ O:List Ent,∃ v5:Value,nw5_=l.length-i∧lw5_=([(0,.slice a l.length cp),(5,v5),(6,.int .i64 i)]:Env)∧(i≤l.length)∧(IsIdx O (l.take i))∧(Row w5 95 4 v5 O.length (O.flatMap Jh))∧(∀ k,v5.ownBlock=some k→w.heap.size≤k)∧(Below w.heap.size w w5)) _ ⟨_,⟨0,[],.slice none 0 0,Z,Z,by omega,⟨.refl _,.nil⟩,Row.nil _ _ _,(fun k hk=>by simp [Value.ownBlock] at hk),bw⟩,⟨Z,Z,Z,tvA⟩⟩ ?_
   clear bw;rintro nw5_ lw5_ w5 ⟨i,O,v5,rfl,rfl,hi,hI,hR,hO,bw⟩;have zz5:=bw.size
   refine Qe<|Qa<|sm Z Z<|sm Z Z<|st (QT Z Z uz35) Z<|st (QJ Z Z) Z<|Wn<|tN<|Qx Z (fun h47=>?_) (fun h47=>?_)
   ·replace h47:=Qs h47
    obtain ⟨x,hx⟩:∃ x,l[i]?=some x:=⟨_,List.getElem?_eq_getElem Qb⟩
    obtain ⟨g1,o1,c',hv,hg1⟩:=(h.bel bw).some_ Qb;injection hv with e1 _ e3;subst e1 e3
    have hOl:O.length=i:=by rw [hI.perm.length_eq,List.length_take]; omega
    obtain ⟨a5,c5,rfl,hn5,hc5⟩:=hR.shape;have h5l:=hR.own_ltE
    refine Qf<|tN<|Qe<|Qp<|Qa<|sa Z Z<|Wn<|tN<|Qa<|sa Z Z<|Wn<|tN<|Qe<|Qa<|sa Z Z<|Wn<|tN<|Qp ?_
    obtain ⟨wk,hwk⟩:∃ G:World,G=w5:=⟨_,rfl⟩
    have h5k:∀ k,(Value.slice a5 O.length c5).ownBlock=some k→k<wk.heap.size:=by rw [hwk]; exact h5l
    have hwkz:w.heap.size≤wk.heap.size:=by rw [hwk]; exact bw.size
    have hkz:wk.heap.size≤(w5).heap.size:=by rw [hwk]; exact Nat.le_refl _
    clear hwk;refine JG (fun nw6_ lw6_ w6=>∃ k:Nat,∃ d:Bool,∃ N:List Ent,∃ v7:Value,nw6_=O.length-k∧lw6_=([(0,.slice (some ⟨g1,o1,none⟩) l.length cp),(5,.slice a5 O.length c5),(6,.int .i64 i),(7,v7),(8,.bool d),(9,.int .i64 k)]:Env)∧(k≤O.length)∧(wk.heap.size≤(w6).heap.size)∧(InsInv O x d k N)∧(N.length≤k+1)∧(Row w6 95 4 (.slice a5 O.length c5) O.length (O.flatMap Jh))∧(Row w6 95 4 v7 N.length (N.flatMap Jh))∧(∀ k,v7.ownBlock=some k→wk.heap.size≤k)∧(Below w.heap.size w w6)) _ ⟨_,⟨0,false,[],.slice none 0 0,Z,Z,by omega,hkz,InsInv.start,by simp,hR,Row.nil _ _ _,(fun k hk=>by simp [Value.ownBlock] at hk),bw⟩,⟨Z,Z,Z,Z,Z,Z,tvA⟩⟩ ?_;clear hkz hR bw;rintro nw6_ lw6_ w6 ⟨k,d,N,v7,rfl,rfl,hk,hkz,hm,hNl,hR,hR7,hO7,bw⟩;have zz6:=bw.size
    refine Qe<|Qa<|sm Z Z<|sm Z Z<|st (QT Z Z uz35) Z<|st (QJ Z Z) Z<|Wn<|tN<|Qx Z (fun h53=>?_) (fun h53=>?_)
    ·replace h53:=Qs h53
     obtain ⟨o,ho⟩:∃ o,O[k]?=some o:=⟨_,List.getElem?_eq_getElem Qb⟩
     have hRe:=hR.reads;obtain ⟨g2,o2,c',hv,hg2⟩:=hRe.some_ Qb;injection hv with e1 _ e3;subst e1 e3
     refine Qf<|tN<|Qe<|Qp<|Qe<|QS (fun G=>G.rangeAt g2 (o2+k*4) (Jh o)∧G.rangeAt g1 (o1+i*4) (Jh x)) [0,1,2,3,4,5,6,7,8,9,10] [Y,Y,Y,Y,Y,Y,Y,Y,Y,Y,Y] Qo Qo (⟨REnts.range (hRe.bel (JC X4)) ho,REnts.range (h.bel (JC bw)) hx⟩) ?_
     obtain ⟨w7,hw_,hb⟩:=QN w6;rw [← hw_];clear hw_;have hS:=hb;have pq:=hb;replace bw:=Ql bw hb;have zz7:=hb.size;clear hb
     refine oY Z (fun G U=>(Qd Z)) Z<|oY Z (fun G U=>(Qd Z)) Z<|oY Z (fun G U=>(QA Z Z uz35 siz95 Z Qb)) Z<|oY Z (fun G U=>(Qk K1 Z)) Z<|oY Z (fun G U=>(JS Z uz9 Z (U.1 0 _ Z))) Z<|oY Z (fun G U=>(Qd Z)) Z<|oY Z (fun G U=>(Qd Z)) Z<|oY Z (fun G U=>(QA Z Z uz35 siz95 Z Qb)) Z<|oY Z (fun G U=>(Qk K1 Z)) Z<|oY Z (fun G U=>(JS Z uz9 Z (U.2 0 _ Z))) Z<|oY Z (fun G U=>(KR Z Z)) Z<|oN<|nN<|Qx Z (fun h66=>?_) (fun h66=>?_)
     ·replace h66:=Qs h66
      refine Qa<|sa Z Z<|sa Z Z<|Wn<|tN ?_
      replace hR:=hR.bel pq;replace hR7:=hR7.bel pq;clear pq
      refine Qg<|tR<|bR<|tR<|tR<|bR<|tR<|bR<|tR<|tR<|bR<|tR ?_
      exact (J6 Z Z Z (Uy (Qfl hx (hI.perm.mem_iff.1 (List.mem_of_getElem? ho)) h66 Qb hfit) bw)).1
     ·replace h66:=Qs h66
      refine Qf<|tN<|Qe ?_
      by_cases hsp_:d=false
      ·replace hR:=hR.bel pq;replace hR7:=hR7.bel pq;clear pq;refine QS (fun G=>G.rangeAt g2 (o2+k*4) (Jh o)∧G.rangeAt g1 (o1+i*4) (Jh x)) [0,1,2,3,4,5,6,7,8,9,10,11,12,13,14] [Y,Y,Y,Y,Y,Y,Y,Y,Y,Y,Y,Y,Y,Y,Y] Qo Qo (⟨REnts.range (hR.reads.bel (JC X4)) ho,REnts.range (h.bel (JC bw)) hx⟩) ?_;obtain ⟨w8,hw_,hb⟩:=QN w7;rw [← hw_];clear hw_;have hS:=hb;have pq:=hb;replace bw:=Ql bw hb;have zz8:=hb.size;clear hb;subst hsp_
       refine oY Z (fun G U=>(Qd Z)) Z<|oY Z (fun G U=>(Jk Z)) Z<|oY Z (fun G U=>(Jf (c:=true) Z (Z))) Z<|Q4 Z Z Z Z (fun G U=>(Qd Z)) Z<|Q4 Z Z Z Z (fun G U=>(Qd Z)) Z<|Q4 Z Z Z Z (fun G U=>(QA Z Z uz35 siz95 Z Qb)) Z<|Q4 Z Z Z Z (fun G U=>(Qk K1 Z)) Z<|Q4 Z Z Z Z (fun G U=>(JS Z uz9 Z (U.1 0 _ Z))) Z<|Q4 Z Z Z Z (fun G U=>(Qd Z)) Z<|Q4 Z Z Z Z (fun G U=>(Qd Z)) Z<|Q4 Z Z Z Z (fun G U=>(QA Z Z uz35 siz95 Z Qb)) Z<|Q4 Z Z Z Z (fun G U=>(Qk K1 Z)) Z<|Q4 Z Z Z Z (fun G U=>(JS Z uz9 Z (U.2 0 _ Z))) Z<|Q4 Z Z Z Z (fun G U=>(Qwj Z Z)) Z<|oY Z (fun G U=>(Qm Z Z)) Z<|oN<|nN<|Qx Z (fun h81=>?_) (fun h81=>?_)
       ·replace h81:=Qs h81
        have hgt:x.sum<o.sum:=by
         rcases Ui x.sum o.sum with q|q|q
         ·exact q
         ·exact absurd q.symm h66
         ·rw [bytesLess_eq] at h81; simp [q] at h81
        refine Qa<|sm Z Z<|sm Z Z<|sm Z Z<|st (QA Z Z uz35 siz95 Z Qb) Z<|st (Jw (cs:=Jh x) Z uz95 Z siz95 (REnts.range (h.bel bw) hx)) Z ?_
        replace hR:=hR.bel pq;replace hR7:=hR7.bel pq;clear pq;refine Zy Z uz35 inf95 Z Z QF QF Z (fun g87 w9 hR87 hg87 hb=>?_);replace bw:=Ql bw hb;replace hR:=hR.bel hb;replace hR7:=hR7.bel hb;have hz87:=hb.size;clear hb;refine Z4 Z Z uz35 inf95 Z QF hR7 (hR87.reads.src uz35 (Zb x)) (by simp only [maxLen]; omega) Qb Z (fun va w10 hRa hC hva=>?_);have hOa:∀ k,va.ownBlock=some k→wk.heap.size≤k:=JE hva hO7 Qb;replace hR:=hR.chg hC (fun k hk e=>by have:=h5k k hk; have:=hO7 k e; omega);replace bw:=KM bw hC (fun k hk=>by have:=hO7 k hk; omega);have hz206:=hC.size
        replace hRa:Row w10 95 4 va (N++[x]).length ((N++[x]).flatMap Jh):=by rw [List.length_append,List.flatMap_append]; exact hRa
        clear hC hva hR7
        refine sa Z Z<|Wn<|tN<|Qw<|sa Z Z<|Wn<|tN<|Qw ?_
        obtain ⟨na,hna⟩:∃ na,N++[x]=na:=⟨_,rfl⟩
        have hnl:na.length≤k+2:=by rw [← hna,List.length_append]; simp; have:=congrArg List.length (hm.2 rfl).1; rw [List.length_take] at this; omega
        have hnl3:na.length≤k+1:=by rw [← hna,List.length_append]; simp; have:=congrArg List.length (hm.2 rfl).1; rw [List.length_take] at this; omega
        rw [hna] at hRa
        refine sm Z Z<|sm Z Z<|sm Z Z<|st (QA Z Z uz35 siz95 Z Qb) Z<|st (Jw (cs:=Jh o) Z uz95 Z siz95 (REnts.range hR.reads ho)) Z<|Zy Z uz35 inf95 Z Z QF QF Z (fun g94 w11 hR94 hg94 hb=>?_)
        replace bw:=Ql bw hb;replace hR:=hR.bel hb;replace hRa:=hRa.bel hb;have hz94:=hb.size;clear hb;refine Z4 Z Z uz35 inf95 Z QF hRa (hR94.reads.src uz35 (Zb o)) (by simp only [maxLen]; omega) Qb Z (fun v7' w12 hR7' hC hvb=>?_);have hO7':∀ k,v7'.ownBlock=some k→wk.heap.size≤k:=JE hvb hOa Qb;replace hR:=hR.chg hC (fun k hk e=>by have:=h5k k hk; have:=hOa k e; omega);replace bw:=KM bw hC (fun k hk=>by have:=hOa k hk; omega);have hz226:=hC.size
        obtain ⟨N',hN'⟩:∃ N',na++[o]=N':=⟨_,rfl⟩
        have hNl':N'.length≤k+1+1:=by rw [← hN',List.length_append]; simp; omega
        replace hR7':Row w12 95 4 v7' N'.length (N'.flatMap Jh):=by rw [← hN',List.length_append,List.flatMap_append]; exact hR7'
        clear hC hvb
        refine sa Z Z<|Wn<|bN<|tN<|Qw ?_
        obtain ⟨d',hd'⟩:∃ d',d'=true:=⟨_,rfl⟩
        have hm':InsInv O x d' (k+1) N':=by rw [hd',← hN',← hna]; exact hm.put hI.up ho hgt
        refine sm Z Z<|st (Qn Z Z Qb) Z<|sa Z Z<|Wn<|tN ⟨_,_,?_,⟨k+1,d',N',v7',Z,Z,by omega,by omega,hm',hNl',hR,hR7',hO7',bw⟩,⟨Z,Z,Z,Z,by rw [hd']; rfl,Z,tvA⟩⟩
        omega
       ·replace h81:=Qs h81
        have hlt:o.sum<x.sum:=Classical.byContradiction fun hn=>by rw [bytesLess_eq] at h81; simp [hn,h66] at h81
        refine Qf<|tN<|Qw ?_
        replace hR:=hR.bel pq;replace hR7:=hR7.bel pq;clear pq
        obtain ⟨na,hna⟩:∃ na,N=na:=⟨_,rfl⟩
        obtain ⟨va,rfl⟩:∃ va,va=v7:=⟨_,rfl⟩
        have hRa:=hR7;have hOa:=hO7
        have hnl3:na.length≤k+1:=by rw [← hna]; exact hNl
        rw [hna] at hRa
        refine sm Z Z<|sm Z Z<|sm Z Z<|st (QA Z Z uz35 siz95 Z Qb) Z<|st (Jw (cs:=Jh o) Z uz95 Z siz95 (REnts.range hR.reads ho)) Z<|Zy Z uz35 inf95 Z Z QF QF Z (fun g94 w13 hR94 hg94 hb=>?_)
        replace bw:=Ql bw hb;replace hR:=hR.bel hb;replace hRa:=hRa.bel hb;have hz94:=hb.size;clear hb;refine Z4 Z Z uz35 inf95 Z QF hRa (hR94.reads.src uz35 (Zb o)) (by simp only [maxLen]; omega) Qb Z (fun v7' w14 hR7' hC hvb=>?_);have hO7':∀ k,v7'.ownBlock=some k→wk.heap.size≤k:=JE hvb hOa Qb;replace hR:=hR.chg hC (fun k hk e=>by have:=h5k k hk; have:=hOa k e; omega);replace bw:=KM bw hC (fun k hk=>by have:=hOa k hk; omega);have hz226:=hC.size
        obtain ⟨N',hN'⟩:∃ N',na++[o]=N':=⟨_,rfl⟩
        have hNl':N'.length≤k+1+1:=by rw [← hN',List.length_append]; simp; omega
        replace hR7':Row w14 95 4 v7' N'.length (N'.flatMap Jh):=by rw [← hN',List.length_append,List.flatMap_append]; exact hR7'
        clear hC hvb
        refine sa Z Z<|Wn<|bN<|tN<|Qw ?_
        obtain ⟨d',hd'⟩:∃ d',d'=false:=⟨_,rfl⟩
        have hm':InsInv O x d' (k+1) N':=by rw [hd',← hN',← hna]; exact hm.pass ho hlt
        refine sm Z Z<|st (Qn Z Z Qb) Z<|sa Z Z<|Wn<|tN ⟨_,_,?_,⟨k+1,d',N',v7',Z,Z,by omega,by omega,hm',hNl',hR,hR7',hO7',bw⟩,⟨Z,Z,Z,Z,by rw [hd']; rfl,Z,tvA⟩⟩
        omega
      ·refine QS (fun _=>True) [0,1,2,3,4,5,6,7,8,9,10,11,12,13,14] [Y,Y,Y,Y,Y,Y,Y,Y,Y,Y,Y,Y,Y,Y,Y] Qo Qo (trivial) ?_;obtain ⟨w15,hw_,hb⟩:=QN w7;rw [← hw_];clear hw_;have hS:True:=trivial;replace pq:=Ql pq hb;replace bw:=Ql bw hb;have zz15:=hb.size;clear hb
       obtain rfl:d=true:=by simpa using hsp_
       refine oY Z (fun G U=>(Qd Z)) Z<|oY Z (fun G U=>(Jk Z)) Z<|oY Z (fun G U=>(Jf (c:=false) Z (Z))) Z<|JA Z Z Z Z hS Z<|JA Z Z Z Z hS Z<|JA Z Z Z Z hS Z<|JA Z Z Z Z hS Z<|JA Z Z Z Z hS Z<|JA Z Z Z Z hS Z<|JA Z Z Z Z hS Z<|JA Z Z Z Z hS Z<|JA Z Z Z Z hS Z<|JA Z Z Z Z hS Z<|JA Z Z Z Z hS Z<|oY Z (fun G U=>(Qq Z Z)) Z<|oN<|nN<|QX Z (Z)<|Qf<|tN<|Qw ?_
       replace hR:=hR.bel pq;replace hR7:=hR7.bel pq;clear pq
       obtain ⟨na,hna⟩:∃ na,N=na:=⟨_,rfl⟩
       obtain ⟨va,rfl⟩:∃ va,va=v7:=⟨_,rfl⟩
       have hRa:=hR7;have hOa:=hO7
       have hnl3:na.length≤k+1:=by rw [← hna]; exact hNl
       rw [hna] at hRa
       refine sm Z Z<|sm Z Z<|sm Z Z<|st (QA Z Z uz35 siz95 Z Qb) Z<|st (Jw (cs:=Jh o) Z uz95 Z siz95 (REnts.range hR.reads ho)) Z<|Zy Z uz35 inf95 Z Z QF QF Z (fun g94 w16 hR94 hg94 hb=>?_)
       replace bw:=Ql bw hb;replace hR:=hR.bel hb;replace hRa:=hRa.bel hb;have hz94:=hb.size;clear hb;refine Z4 Z Z uz35 inf95 Z QF hRa (hR94.reads.src uz35 (Zb o)) (by simp only [maxLen]; omega) Qb Z (fun v7' w17 hR7' hC hvb=>?_);have hO7':∀ k,v7'.ownBlock=some k→wk.heap.size≤k:=JE hvb hOa Qb;replace hR:=hR.chg hC (fun k hk e=>by have:=h5k k hk; have:=hOa k e; omega);replace bw:=KM bw hC (fun k hk=>by have:=hOa k hk; omega);have hz226:=hC.size
       obtain ⟨N',hN'⟩:∃ N',na++[o]=N':=⟨_,rfl⟩
       have hNl':N'.length≤k+1+1:=by rw [← hN',List.length_append]; simp; omega
       replace hR7':Row w17 95 4 v7' N'.length (N'.flatMap Jh):=by rw [← hN',List.length_append,List.flatMap_append]; exact hR7'
       clear hC hvb
       refine sa Z Z<|Wn<|bN<|tN<|Qw ?_
       obtain ⟨d',hd'⟩:∃ d',d'=true:=⟨_,rfl⟩
       have hm':InsInv O x d' (k+1) N':=by rw [hd',← hN',← hna]; exact hm.keep ho
       refine sm Z Z<|st (Qn Z Z Qb) Z<|sa Z Z<|Wn<|tN ⟨_,_,?_,⟨k+1,d',N',v7',Z,Z,by omega,by omega,hm',hNl',hR,hR7',hO7',bw⟩,⟨Z,Z,Z,Z,by rw [hd']; rfl,Z,tvA⟩⟩
       omega
    ·replace h53:=Qs h53
     obtain rfl:k=O.length:=by omega
     refine QQ<|tE<|tE<|bH<|tN<|Qe<|Qa<|sm Z Z<|st (Jk Z) Z<|Wn<|tN<|Qx Z (fun h97=>?_) (fun h97=>?_)
     ·replace h97:=Qs h97;have hd0:d=false:=h97;subst hd0;have hfin:=hm.last hI.up
      refine Qw<|sm Z Z<|sm Z Z<|sm Z Z<|st (QA Z Z uz35 siz95 Z Qb) Z<|st (Jw (cs:=Jh x) Z uz95 Z siz95 (REnts.range (h.bel bw) hx)) Z<|Zy Z uz35 inf95 Z Z QF QF Z (fun g103 w18 hR103 hg103 hb=>?_)
      replace bw:=Ql bw hb;replace hR7:=hR7.bel hb;have hz103:=hb.size;clear hb;refine Z4 Z Z uz35 inf95 Z QF hR7 (hR103.reads.src uz35 (Zb x)) (by simp only [maxLen]; omega) Qb Z (fun vf w19 hRf hC hvb=>?_)
      have hOf:∀ k,vf.ownBlock=some k→w.heap.size≤k:=fun k hk=>by have:=JE hvb hO7 Qb k hk; omega
      replace bw:=KM bw hC (fun k hk=>by have:=hO7 k hk; omega)
      obtain ⟨O',hO'⟩:∃ O',N++[x]=O':=⟨_,rfl⟩
      rw [hO'] at hfin;have hI':=VP hI hx hfin
      replace hRf:Row w19 95 4 vf O'.length (O'.flatMap Jh):=by rw [← hO',List.length_append,List.flatMap_append]; exact hRf
      clear hC hvb
      refine sa Z Z<|Wn<|tN<|Qw<|sm Z Z<|sa Z Z<|Wn<|bN<|tN<|Qw<|sm Z Z<|st (Qn Z Z Qb) Z<|sa Z Z<|Wn<|tN ⟨_,_,?_,⟨i+1,O',vf,Z,Z,by omega,hI',hRf,hOf,bw⟩,⟨Z,Z,Z,tvA⟩⟩
      omega
     ·replace h97:=Qs h97
      have hd0:d=true:=by simpa using h97
      subst hd0
      obtain ⟨O',hO'⟩:∃ O',N=O':=⟨_,rfl⟩
      obtain ⟨vf,rfl⟩:∃ vf,vf=v7:=⟨_,rfl⟩
      have hI':=VP hI hx hm.done;rw [hO'] at hI';have hRf:=hR7;rw [hO'] at hRf
      have hOf:∀ k,vf.ownBlock=some k→w.heap.size≤k:=fun k hk=>by have:=hO7 k hk; omega
      refine Qf<|tN<|Qw<|sm Z Z<|sa Z Z<|Wn<|bN<|tN<|Qw<|sm Z Z<|st (Qn Z Z Qb) Z<|sa Z Z<|Wn<|tN ⟨_,_,?_,⟨i+1,O',vf,Z,Z,by omega,hI',hRf,hOf,bw⟩,⟨Z,Z,Z,tvA⟩⟩
      omega
   ·replace h47:=Qs h47
    obtain rfl:i=l.length:=by omega
    rw [List.take_length] at hI
    refine QQ<|tE<|tE<|bH<|tN<|Qa<|sm Z Z<|sa Z Z<|sa Z Z<|Wn<|tN<|Qg<|(J6 Z Z Z ?_).1
    rw [Vm hI.perm hI.up Qb hfit];exact ⟨_,Z,hR.reads,fun k hk=>⟨hO k hk,hR.own_ltE k hk⟩,bw⟩
theorem KK (v:Value) (l:List Ent) (w:World) (h:REnts w v l) (hl:l.length≤1000000):Calls Tryz.prog 43 #[v] w fun e w'=>∃ u,e=.returned u∧REnts w' u (Jb l).1∧(∀ k,u.ownBlock=some k→w.heap.size≤k∧k<w'.heap.size)∧Below w.heap.size w w':=by
 obtain ⟨p,cp,rfl,hn,hcp⟩:=h.shape
 refine Qj (args:=[.slice p l.length cp]) 11 fz43 Z Z Z<|Qt [(0,.slice p l.length cp)] ?_ ⟨Z,tvA⟩
 have bw:=Below.refl w.heap.size w
 refine Qa<|sa Z Z<|Wn<|tN<|Qa<|sm Z Z<|sc _ Tryz.func92 Z Qo Z Z<|(Qox _ l _ h hl).mono ?_
 rintro e_ w1 ⟨u,rfl,hR,hO,hb⟩;refine cR ?_;replace bw:=Ql bw hb;have zz1:=hb.size;clear hb
 refine sm Z Z<|st (Qu Z Z) Z<|st (Qu Z Z) Z<|sa Z Z<|sa Z Z<|Wn<|tN<|Qa<|sm Z Z<|sa Z Z<|Wn<|tN<|Qg ?_
 exact (rT Z Z ⟨u,Z,hR,fun k hk=>by have:=hO k hk; omega,bw⟩).1
end
end Go.Proofs.YtgiccohjijhfkaaGreatDoor
