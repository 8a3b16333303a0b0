/- Part 8. -/
import Derived.Lib.SlBytesConst
import Derived.Test.YtgiccohjijhfkaaGreatDoorPackPlaysP7
set_option maxRecDepth 100000
set_option maxHeartbeats 4000000
namespace Go.Proofs.YtgiccohjijhfkaaGreatDoor
section
open Go.RowKit
theorem up32:∀ (l:List Ent),Yt l→∃ L:List Ent32,L.map (·.1)=l
 | [],_=>⟨[],rfl⟩
 | e::l,h=>by
  obtain ⟨L,hL⟩:=up32 l (fun x hx=>h x (by simp [hx]));exact ⟨⟨e,h e Q0⟩::L,by rw [List.map_cons,hL]⟩
theorem Qsu (v:Value) (l:List Ent) (w:World) (hR:Row w 59 35 v l.length (l.flatMap Ent.cells)) (h32:Yt l) (hl:l.length≤1000000) :
  Calls Tryz.prog 163 #[v,.func (.func 164) #[] #[]] w fun e w'=>∃ xs:List Ent,e=.returned (.tuple #[])∧xs.Perm l∧xs.Pairwise (fun x y=>¬y.sum<x.sum)∧Row w' 59 35 v xs.length (xs.flatMap Ent.cells)∧Chg (fun k=>v.ownBlock=some k) w w':=by
 obtain ⟨L,hL⟩:=up32 l h32
 have hlen:L.length=l.length:=by rw [← hL,List.length_map]
 have hfl:∀ K:List Ent32,K.flatMap encE=(K.map (·.1)).flatMap Ent.cells:=fun K=>by rw [List.flatMap_map]; rfl
 refine (Qiu v L w (by rw [hlen,hfl,hL]; exact hR) Qb).mono ?_;rintro e w' ⟨xs,rfl,hp,hs,hR',hC⟩;refine ⟨xs.map (·.1),Z,?_,?_,?_,hC⟩
 ·rw [← hL]; exact hp.map _
 ·rw [List.pairwise_map]; exact hs
 ·rw [List.length_map,← hfl]; exact hR'
theorem Qea {l:Env} {x y:Operand} {w:World} {t' ty:TypeId} {a b:List UInt8} (ha:a.length=32) (hb:b.length=32) (hx:ev l x=some (.agg (a.map bv).toArray)) (hy:ev l y=some (.agg (b.map bv).toArray)):X Tryz.prog l (.binOp .eql 57 x y t') ty w (.bool (a == b)) w :=
 JJ hx hy (fun c d=>run_eqGuard_agg w .eql _ c d _ _ Qo) (Qjo a b ha hb w)
theorem Vm {l xs:List Ent} (hp:xs.Perm l) (hu:Up xs) (h1:l.length≤65536) (h2:l.all Ze=true):Jb l=(xs,0):=by
 have hi:IsIdx xs l:=⟨hp,hu⟩
 unfold Jb;rw [if_neg Qb,if_neg (by rw [h2]; simp),if_pos hi.nodup,← hi.eq]
theorem Qkk {l xs:List Ent} (hp:xs.Perm l) {i:Nat} {x y:Ent} (hy:xs[i]?=some y) (hx:xs[i+1]?=some x) (he:x.sum=y.sum) (h1:l.length≤65536) (h2:l.all Ze=true):Jb l=([],16):=by
 unfold Jb;rw [if_neg Qb,if_neg (by rw [h2]; simp),if_neg];intro hn;have hn':=((hp.map (·.sum)).nodup_iff).2 hn;rw [List.Nodup,List.pairwise_map,List.pairwise_iff_getElem] at hn';obtain ⟨q1,e1⟩:=List.getElem?_eq_some_iff.1 hy;obtain ⟨q2,e2⟩:=List.getElem?_eq_some_iff.1 hx;refine hn' i (i+1) q1 q2 Qb ?_;rw [e1,e2,he]
theorem Qgy {l:List Ent} (h:65536<l.length):Jb l=([],31):=by unfold Jb; rw [if_pos h]
theorem Vn {l:List Ent} (h:l.length≤65536) (h2:l.all Ze=false):Jb l=([],1):=by unfold Jb; rw [if_neg Qb,if_pos h2]
theorem Yb {α:Type} {p:α→Bool} {l:List α} {j:Nat} {x:α} (h:l[j]?=some x):(l.drop j).all p=(p x && (l.drop (j+1)).all p):=by
 obtain ⟨hj,rfl⟩:=List.getElem?_eq_some_iff.1 h;rw [List.drop_eq_getElem_cons hj,List.all_cons]
theorem EntsAt.nil (w:World):EntsAt w (.slice none 0 0) []:=(Row.nil w 59 35).reads
def Hi (w:World) (r:List Ent×Int) (e:Ending) (w':World):Prop:=∃ v,e=.returned (.tuple #[.agg #[v],.int .i64 r.2])∧EntsAt w' v r.1∧(∀ k,v.ownBlock=some k→w.heap.size≤k)∧Below w.heap.size w w'
theorem UB {w w':World} {r:List Ent×Int} {k:Int} (h:r=([],k)) (hb:Below w.heap.size w w'):Hi w r (.returned (.tuple #[.agg #[.slice none 0 0],.int .i64 k])) w':=by
 subst h;exact ⟨_,Z,EntsAt.nil _,fun k hk=>by simp [Value.ownBlock] at hk,hb⟩
theorem bidx (a:Option Addr) (n c:Nat) (w:World):(Instr.build 101 #[(0,.slice a n c)]).run Tryz.prog w=.ok (.agg #[.slice a n c]) w:=by kernel_rfl
theorem Y6 (w:World):(Instr.build 101 #[]).run Tryz.prog w=.ok (.agg #[.slice none 0 0]) w:=by kernel_rfl
theorem bs3 (a b c:Int) (w:World):(Instr.buildSlice 42 3 #[(0,.int .i64 a),(1,.int .i64 b),(2,.int .i64 c)]).run Tryz.prog w=.ok (.slice (some ⟨w.heap.size,0,none⟩) 3 3) (w.alloc (.cells #[.int .i64 a,.int .i64 b,.int .i64 c] 3)):=by kernel_rfl
theorem Qlb (x:Ent):[x.pack,x.pos,x.len].all YD=Ze x:=by simp [Ze,Bool.and_assoc]
theorem Ent.cell_ {e:Ent} (h:e.sum.length=32) (i:Nat) (v:Value) (hv:[Value.int .i64 e.pack,.int .i64 e.pos,.int .i64 e.len][i]?=some v):e.cells.toArray[32+i]?=some v:=by
 rw [List.getElem?_toArray,Ent.cells,List.getElem?_append_right (by simp [h]),← hv];simp [h]
theorem Qxi (v:Value) (l:List Ent) (w:World) (h:EntsAt w v l) (h32:Yt l) (hl:l.length≤1000000):Calls Tryz.prog 131 #[v] w (Hi w (Jb l)):=by
 obtain ⟨a,cp,rfl,hn,hcp⟩:=h.shape
 refine Qj (args:=[.slice a l.length cp]) 58 Tryz.func131 Z Z Z<|Qt [(0,.slice a l.length cp)] ?_ ⟨Z,tvA⟩
 have bw:=Below.refl w.heap.size w
 refine Qa<|Jm inf101 Z (fun g2 w1 hB2 hg2 hb hl2=>?_)
 replace bw:=Ql bw hb;have zz1:=hb.size;clear hb
 refine sa Z Z<|Wn<|tN<|Qe<|Qa<|sm Z Z<|st (QT Z Z uz77) Z<|st (Jg Z Z) Z<|Wn<|tN<|Qx Z (fun h10=>?_) (fun h10=>?_)
 ·replace h10:=Qs h10
  refine Qa<|st (Ja Z (Y6 _)) Z<|QY Z Z hB2 siz101 Z Z (fun w2 bB cC=>?_)
  replace hB2:=bB;clear bB;replace bw:=Ji bw cC Qb;have zz2:=cC.size;clear cC
  refine sa Z Z<|Wn<|tN<|Qg<|tR ?_
  exact (KW Z Z hB2 uz101 Z siz101 Z (UB (Qgy Qb) bw)).1
 ·replace h10:=Qs h10
  refine Qf<|tN<|Qe<|Qa<|sm Z Z<|st (QT Z Z uz77) Z<|sm Z Z<|Wn<|tN<|Qp<|JG (fun nw3_ lw3_ w3=>∃ j:Nat,nw3_=l.length-j∧lw3_=([(0,.slice a l.length cp),(2,.pointer (some ⟨g2,0,none⟩)),(12,.slice a l.length cp),(13,.int .i64 l.length),(14,.int .i64 j)]:Env)∧(j≤l.length)∧(l.all Ze=(l.drop j).all Ze)∧(Blk w3 g2 101 #[.slice none 0 0])∧(Below w.heap.size w w3)) _ ⟨_,⟨0,Z,Z,by omega,Z,hB2,bw⟩,⟨Z,Z,Z,Z,Z,tvA⟩⟩ ?_
  clear hB2 bw;rintro nw3_ lw3_ w3 ⟨j,rfl,rfl,hj,hq,hB2,bw⟩;have zz3:=bw.size;have hlt_hB2_w3:=hB2.lt
  refine Qa<|st (QJ Z Z) Z<|Wn<|tN<|Qe<|Qx Z (fun h15=>?_) (fun h15=>?_)
  ·replace h15:=Qs h15
   obtain ⟨x,hx⟩:∃ x,l[j]?=some x:=⟨_,List.getElem?_eq_getElem Qb⟩
   obtain ⟨g1,o1,c',hv,hg1⟩:=(h.bel bw).some_ Qb;injection hv with e1 _ e3;subst e1 e3;have hxs:=h32 x (List.mem_of_getElem? hx)
   refine Qf<|tN<|Qe<|Qp<|Qa<|st (QA Z Z uz77 siz59 Z Qb) Z<|st (Jw (cs:=x.cells) Z uz59 Z (by rw [Ent.cells_length hxs]; exact siz59) (EntsAt.range (h.bel bw) h32 hx)) Z ?_
   refine Jm inf59 Z (fun g5 w4 hB5 hg5 hb hl5=>?_);replace bw:=Ql bw hb;replace hB2:=hB2.bel hb;have zz4:=hb.size;clear hb;refine QY Z Z hB5 (by rw [Ent.size hxs]; exact siz59) (by rw [Ent.size hxs]; rfl) (Ent.cells_one x) (fun w5 bB cC=>?_);replace hB5:=bB;clear bB;replace hB2:=hB2.chg cC Z5;replace bw:=Ji bw cC Qb;have zz5:=cC.size;clear cC
   refine Wn<|tN<|Qa<|st (Qk Qho Z) Z<|st (Z0 Z hB5 uz3 Z (Ent.cell_ hxs 0 _ Z)) Z<|st (Qk H4 Z) Z<|st (Z0 Z hB5 uz3 Z (Ent.cell_ hxs 1 _ Z)) Z<|st (Qk Vv Z) Z<|st (Z0 Z hB5 uz3 Z (Ent.cell_ hxs 2 _ Z)) Z<|sbs (ps:=[(0,.tmp 19),(1,.tmp 21),(2,.tmp 23)]) 1 Z (bs3 _ _ _ _) (by simp [maxLen]) Z Z (fun g24 w6 hR24 hg24 hb=>?_)
   replace hB2:=hB2.belowAll hb;replace hB5:=hB5.belowAll hb;replace bw:=Ql bw hb;clear hb;refine sc _ Tryz.func162 Z Qo Z Z (Q3 (May_any _ [x.pack,x.pos,x.len] _ hR24.reads) fun w7 hb=>?_);replace bw:=Ql bw hb;replace hB2:=hB2.bel hb;replace hB5:=hB5.bel hb;have zz7:=hb.size;clear hb
   refine st (Jk Z) Z<|Wn<|tN<|Qx Z (fun h26=>?_) (fun h26=>?_)
   ·replace h26:=Qs h26
    refine Qa<|st (Ja Z (Y6 _)) Z<|QY Z Z hB2 siz101 Z Z (fun w8 bB cC=>?_)
    replace hB2:=bB;clear bB;replace hB5:=hB5.chg cC Z5;replace bw:=Ji bw cC Qb;have zz8:=cC.size;clear cC
    refine sa Z Z<|Wn<|tN<|Qg<|bR<|tR<|tR<|bR<|tR ?_
    have hfx:Ze x=false:=by rw [← Qlb]; exact h26
    exact (KW Z Z hB2 uz101 Z siz101 Z (UB (Vn Qb (by rw [hq,Yb hx,hfx]; rfl)) bw)).1
   ·replace h26:=Qs h26
    have hfx:Ze x=true:=by rw [← Qlb]; exact h26
    refine Qf<|bN<|tN<|Qw<|st (Qn Z Z Qb) Z<|sm Z Z<|Wn<|tN ⟨_,_,?_,⟨j+1,Z,Z,by omega,by rw [hq,Yb hx,hfx]; rfl,hB2,bw⟩,⟨Z,Z,Z,Z,Z,tvA⟩⟩
    omega
  ·replace h15:=Qs h15
   obtain rfl:j=l.length:=by omega
   rw [List.drop_length] at hq
   refine QQ<|tE<|tE<|bH<|tN<|Qa<|sm Z Z<|sc _ Tryz.func91 Z Qo Z Z<|(Hj _ l _ (h.bel bw) h32 hl).mono ?_
   rintro e_ w9 ⟨v1,rfl,hR1,hO1,hb⟩;refine cR ?_;replace bw:=Ql bw hb;replace hB2:=hB2.bel hb;have zz9:=hb.size;clear hb
   refine sa Z Z<|Wn<|tN<|Qa<|sm Z Z<|sc _ Tryz.func163 Z Qo Z Z<|(Qsu v1 l _ hR1 h32 hl).mono ?_
   rintro e_ w10 ⟨xs,rfl,hp,hs,hR,hC⟩;refine cR ?_;replace hB2:=hB2.chg hC (fun hk=>by have:=hO1 _ hk; have:=hB2.lt; omega);replace bw:=KM bw hC (fun k hk=>by have:=hO1 _ hk; omega);clear hC hR1;have hxl:xs.length=l.length:=hp.length_eq
   have hx32:Yt xs:=fun e he=>h32 e (hp.mem_iff.1 he)
   obtain ⟨a2,c2,rfl,hn2,hcp2⟩:=hR.shape
   refine Wn<|tN<|Qe<|Qa<|sm Z Z<|st (QT Z Z uz77) Z<|sm Z Z<|Wn<|tN<|Qp<|JG (fun nw11_ lw11_ w11=>∃ j:Nat,nw11_=xs.length-j∧lw11_=([(2,.pointer (some ⟨g2,0,none⟩)),(6,.slice a2 xs.length c2),(34,.int .i64 xs.length),(35,.int .i64 j)]:Env)∧(j≤xs.length)∧(upB (xs.take j)=true)∧(Row w11 59 35 (.slice a2 xs.length c2) xs.length (xs.flatMap Ent.cells))∧(Blk w11 g2 101 #[.slice none 0 0])∧(Below w.heap.size w w11)) _ ⟨_,⟨0,Z,Z,by omega,Z,hR,hB2,bw⟩,⟨Z,Z,Z,Z,tvA⟩⟩ ?_
   clear hR hB2 bw;rintro nw11_ lw11_ w11 ⟨j,rfl,rfl,hj,hu,hR,hB2,bw⟩;have zz11:=bw.size;have hlt_hB2_w11:=hB2.lt
   refine Qa<|st (QJ Z Z) Z<|Wn<|tN<|Qe<|Qx Z (fun h36=>?_) (fun h36=>?_)
   ·replace h36:=Qs h36
    obtain ⟨x,hx⟩:∃ x,xs[j]?=some x:=⟨_,List.getElem?_eq_getElem Qb⟩
    obtain ⟨g1,o1,c',hv,hg1⟩:=hR.reads.some_ Qb;injection hv with e1 _ e3;subst e1 e3;have hxs:=hx32 x (List.mem_of_getElem? hx)
    refine Qf<|tN<|Qe<|Qp<|Qa<|sm Z Z<|sa Z Z<|Wn<|tN ?_
    by_cases hsp_:0<j
    ·obtain ⟨y,hy⟩:∃ y,xs[j-1]?=some y:=⟨_,List.getElem?_eq_getElem Qb⟩
     have hy':xs[j-1+1]?=some x:=by rw [show j-1+1=j by omega]; exact hx
     have hys:=hx32 y (List.mem_of_getElem? hy);refine QS (fun G=>G.rangeAt g1 (o1+j*35+0) (x.sum.map bv)∧G.rangeAt g1 (o1+(j-1)*35+0) (y.sum.map bv)) [0,1,2,3,4,5,6,7,8,9,10,11,12,13,14,15] [Y,Y,Y,Y,Y,Y,Y,Y,Y,Y,Y,Y,Y,Y,Y,Y] Qo Qo (⟨(EntsAt.sum hR.reads hx32 hx),(EntsAt.sum hR.reads hx32 hy)⟩) ?_;obtain ⟨w12,hw_,hb⟩:=QN w11;rw [← hw_];clear hw_;have hS:=hb;replace bw:=Ql bw hb;replace hB2:=hB2.bel hb;replace hR:=hR.bel hb;have zz12:=hb.size;clear hb
     refine oY Z (fun G U=>(Qd Z)) Z<|oY Z (fun G U=>(Jg Z Z)) Z<|oY Z (fun G U=>(Jf (c:=true) Z (decide_eq_true Qb))) Z<|Q4 Z Z Z Z (fun G U=>(Qd Z)) Z<|Q4 Z Z Z Z (fun G U=>(Qd Z)) Z<|Q4 Z Z Z Z (fun G U=>(QA Z Z uz77 siz59 Z Qb)) Z<|Q4 Z Z Z Z (fun G U=>(Qk Y0 Z)) Z<|Q4 Z Z Z Z (fun G U=>(Jw (cs:=x.sum.map bv) Z uz57 Z (by rw [List.length_map,hxs]; exact siz57) U.1)) Z ?_
     refine Q4 Z Z Z Z (fun G U=>(Qd Z)) Z<|Q4 Z Z Z Z (fun G U=>(Qd Z)) Z<|Q4 Z Z Z Z (fun G U=>(V5 Z Z (show IntKind.i64.wrap ((j:Int)-1)=((j-1:Nat):Int) by rw [U8 Qb]; omega))) Z ?_
     refine Q4 Z Z Z Z (fun G U=>(QA Z Z uz77 siz59 Z Qb)) Z<|Q4 Z Z Z Z (fun G U=>(Qk Y0 Z)) Z<|Q4 Z Z Z Z (fun G U=>(Jw (cs:=y.sum.map bv) Z uz57 Z (by rw [List.length_map,hys]; exact siz57) U.2)) Z ?_
     refine Q4 Z Z Z Z (fun G U=>(Qea hxs hys Z Z)) Z<|oY Z (fun G U=>(Qm Z Z)) Z<|oN<|nN<|Qx Z (fun h53=>?_) (fun h53=>?_)
     ·replace h53:=Qs h53
      refine Qa<|st (Ja Z (Y6 _)) Z<|QY Z Z hB2 siz101 Z Z (fun w13 bB cC=>?_)
      replace hB2:=bB;clear bB;replace bw:=Ji bw cC Qb;have zz13:=cC.size;clear cC
      refine sa Z Z<|Wn<|tN<|Qg<|bR<|tR<|tR<|bR<|tR ?_
      exact (KW Z Z hB2 uz101 Z siz101 Z (UB (Qkk hp hy hy' (eq_of_beq h53) Qb (hq.trans Z)) bw)).1
     ·replace h53:=Qs h53
      refine Qf<|bN<|tN<|Qw ?_
      have hne:x.sum≠y.sum:=fun e=>by rw [e] at h53; simp at h53
      have hlt:y.sum<x.sum:=by
       obtain ⟨q1,e1⟩:=List.getElem?_eq_some_iff.1 hy;obtain ⟨q2,e2⟩:=List.getElem?_eq_some_iff.1 hx;have h3:=List.pairwise_iff_getElem.1 hs (j-1) j q1 q2 Qb;rw [e1,e2] at h3
       rcases Ui x.sum y.sum with k|k|k
       ·exact absurd k h3
       ·exact absurd k hne
       ·exact k
      have hu':upB (xs.take (j+1))=true:=by
       have:=Qbx (i:=j-1) (by rw [show j-1+1=j by omega]; exact hu) hy hy' hlt
       rwa [show j-1+2=j+1 by omega] at this
      refine st (Qn Z Z Qb) Z<|sm Z Z<|Wn<|tN ⟨_,_,?_,⟨j+1,Z,Z,by omega,hu',hR,hB2,bw⟩,⟨Z,Z,Z,Z,tvA⟩⟩
      omega
    ·refine QS (fun _=>True) [0,1,2,3,4,5,6,7,8,9,10,11,12,13,14,15] [Y,Y,Y,Y,Y,Y,Y,Y,Y,Y,Y,Y,Y,Y,Y,Y] Qo Qo (trivial) ?_;obtain ⟨w14,hw_,hb⟩:=QN w11;rw [← hw_];clear hw_;have hS:True:=trivial;replace bw:=Ql bw hb;replace hB2:=hB2.bel hb;replace hR:=hR.bel hb;have zz14:=hb.size;clear hb
     refine oY Z (fun G U=>(Qd Z)) Z<|oY Z (fun G U=>(Jg Z Z)) Z<|oY Z (fun G U=>(Jf (c:=false) Z (decide_eq_false Qb))) Z<|JA Z Z Z Z hS Z<|JA Z Z Z Z hS Z<|JA Z Z Z Z hS Z<|JA Z Z Z Z hS Z<|JA Z Z Z Z hS Z<|JA Z Z Z Z hS Z<|JA Z Z Z Z hS Z<|JA Z Z Z Z hS Z<|JA Z Z Z Z hS Z<|JA Z Z Z Z hS Z<|JA Z Z Z Z hS Z<|JA Z Z Z Z hS Z<|oY Z (fun G U=>(Qq Z Z)) Z<|oN<|nN<|QX Z (Z)<|Qf<|bN<|tN<|Qw ?_
     have hu':upB (xs.take (j+1))=true:=by
      obtain rfl:j=0:=by omega
      cases xs with
      | nil=>rfl
      | cons c xs=>rfl
     refine st (Qn Z Z Qb) Z<|sm Z Z<|Wn<|tN ⟨_,_,?_,⟨j+1,Z,Z,by omega,hu',hR,hB2,bw⟩,⟨Z,Z,Z,Z,tvA⟩⟩
     omega
   ·replace h36:=Qs h36
    obtain rfl:j=xs.length:=by omega
    rw [List.take_length] at hu;have hm:=Vm hp ((upB_iff _).1 hu) Qb (hq.trans rfl)
    refine QQ<|tE<|tE<|bH<|tN<|Qa<|sm Z Z<|st (Ja Z (bidx _ _ _ _)) Z<|QY Z Z hB2 siz101 Z Z (fun w15 bB cC=>?_)
    replace hR:=hR.chg cC (fun k hk e=>hR.ne_ hB2 QF (by rw [hk,e]));replace hB2:=bB;replace bw:=Ji bw cC Qb;clear bB cC
    refine sa Z Z<|Wn<|tN<|Qg<|(KW Z Z hB2 uz101 Z siz101 Z ?_).1
    rw [hm];exact ⟨_,Z,hR.reads,fun k hk=>by have:=hO1 k hk; omega,bw⟩
end
section
open Go.RowKit
def eZ:Ent:=⟨List.replicate 32 0,0,0,0⟩
theorem benZ (w:World):(Instr.build 59 #[]).run Tryz.prog w=.ok (.agg eZ.cells.toArray) w:=by kernel_rfl
theorem Qwg {l:Env} {x y:Operand} {w:World} {t' ty:TypeId} {a b:List UInt8} (ha:a.length=32) (hb:b.length=32) (hx:ev l x=some (.agg (a.map bv).toArray)) (hy:ev l y=some (.agg (b.map bv).toArray)):X Tryz.prog l (.binOp .neq 57 x y t') ty w (.bool (!(a == b))) w :=
 JJ hx hy (fun c d=>run_eqGuard_agg w .neq _ c d _ _ Qo) (Qjn a b ha hb w)
end
section
open Go.RowKit
section
variable {P:Program} {N:Nat} {ds:List Deferred} {Q:Post} {l:Env} {w:World} {ops:Array Oper} {rest:List Oper} {x y:Operand} {ty ty2 t e:TypeId} {pos pos2:String} {aft aft2:Array Edge} {d d2:Nat} {k:IntKind} {m:Int} {v:Value}
theorem Qoq {len j:Nat} {cs:Array Value} {d:TypeDesc} (hx:ev l x=some (.agg cs)) (hy:ev l y=some (.int k m)) (hu:P.underlying t=some (.array len e)) (hi:(P.info? e).map (·.size)=some 1) (he:P.underlying e=some d) (hd:(match d with|.struct _|.array _ _=>false|_=>true)=true) (hm:m=(j:Int)) (hj:j<len) (hc:cs[j]?=some v):X P l (.index t x y) ty w v w:=fun ρ hρ=>by
 subst hm
 have hs:(sizeOf e).run P w=.ok 1 w:=by
  obtain ⟨q,hq,hs⟩:=Option.map_eq_some_iff.1 hi;simp [sizeOf,typeInfo,hq,hs]
 have hp:(part e cs j).run P w=.ok v w:=by cases d <;> simp at hd <;> simp [part,isAgg,run_underlying he,hc]
 unfold execOp;simp [hρ _ _ hx,hρ _ _ hy,Instr.index,asIntOf,run_underlying hu,hs,hj,hp,Result.andThen]
theorem sbconst {len:Nat} {ps:List (Nat×Operand)} {vs:List (Nat×Value)} {cs:Array Value} (hp:evp l ps=some vs) (hr:(Instr.buildSlice t len vs.toArray).run P w=.ok (.slice (some ⟨w.heap.size,0,none⟩) len len) (w.alloc (.cells cs e))) (hu:P.underlying t=some (.slice e)) (he:P.underlying e=some (.int .u8)) (hn:len≤maxLen) (hc:cs.size=len) (hd:Nat.blt d N=true) (hd2:Nat.blt d2 N=true)
  (h:∀ g w',Row w' e 1 (.slice (some ⟨g,0,none⟩) len len) len cs.toList→w.heap.size≤g→Below w.heap.size w w'→WL P N ds ops Q rest ((d2,.slice (some ⟨g,0,none⟩) len len)::(d,.slice (some ⟨g,0,none⟩) len len)::l) w'):WL P N ds ops Q (⟨some d,.buildSlice t len ps.toArray,ty,pos,aft,none⟩::⟨some d2,.convert t t (.tmp d),ty2,pos2,aft2,none⟩::rest) l w:=by
 refine st (w':=w.alloc (.cells cs e)) (fun ρ hρ=>?_) hd<|st (w':=w.alloc (.cells cs e (cs.size,cs.size+1))) (fun ρ hρ=>?_) hd2<|h _ _ ?_ (Nat.le_refl _)<|(Below.refl _ _).alloc (Nat.le_refl _) _
 ·unfold execOp
  have:=Qbm hρ hp
  simp only [List.map_toArray,Sem.run_bind];rw [this,hr]
  rfl
 ·unfold execOp;have hx:ρ (.tmp d)=.slice (some ⟨w.heap.size,0,none⟩) len len:=hρ _ _ (by simp [ev,lk])
  have:=Lib.run_convert_bytes_const (P:=P) w t e cs len len hu he
  simp only [hx,Sem.run_bind,this,Result.andThen_ok,Sem.run_pure]
 ·refine ⟨by rw [Array.length_toList,hc,Nat.mul_one],.inr ⟨w.heap.size,0,len,cs,(cs.size,cs.size+1),Z,heap_alloc_new w _,Nat.le_refl _,hn,by omega,?_,fun j hj=>by simp; omega⟩⟩;rw [List.drop_zero,Nat.mul_one,List.take_of_length_le (by rw [Array.length_toList]; omega)]
end
theorem HZ (v:Value) (s:List UInt8) (k:Nat) (n:Int) (w:World) (hR:Row w 5 1 v k (s.map bv)) (hk:s.length=k) (hs:k≤100000000) :
  Calls Tryz.prog 148 #[v,.int .i64 n] w fun e w'=>∃ v',e=.returned v'∧Row w' 5 1 v' (k+4) ((s++JR n).map bv)∧Chg (fun k=>v.ownBlock=some k) w w'∧(v'.ownBlock=v.ownBlock∨∃ k,v'.ownBlock=some k∧w.heap.size≤k):=by
 subst hk;exact Qkz v s n w hR hs
theorem b3arr (a b c:Int) (w:World):(Instr.build 213 #[(0,.int .i64 a),(1,.int .i64 b),(2,.int .i64 c)]).run Tryz.prog w=.ok (.agg #[.int .i64 a,.int .i64 b,.int .i64 c]) w:=by kernel_rfl
theorem entSrc {w:World} {g:Nat} {t tx e':TypeId} {x:Ent} (hB:Blk w g t x.cells.toArray) (hx:x.sum.length=32) (hk:Tryz.prog.underlying tx=some (.slice e')):Src Tryz.prog 1 tx (.slice (some ⟨g,0,none⟩) 32 32) 32 (x.sum.map bv) w :=
 Src.ofSlice w hk ⟨g,0,none⟩ 32 32 (x.sum.map bv) (by simp [hx]) (fun j u hu=>by
  have hj:=(List.getElem?_eq_some_iff.1 hu).1;rw [Addr.add_mid,Nat.zero_add,hB.cell,List.getElem?_toArray,Ent.cells,List.getElem?_append_left hj]
  exact hu) (by intro u hu; simp at hu; obtain ⟨q,_,rfl⟩:=hu; rfl)
def Xb (l:List Ent):List UInt8:=kindB++UF l 256
theorem Qhb (l:List Ent):(Xb l).length=1028:=by unfold Xb; rw [List.length_append,Ko]; rfl
theorem VX {l:List Ent} (h:Yt l) (j:Nat) (hj:j≤l.length):(Xb l++(l.take j).flatMap Js).length=1028+44*j:=by
 rw [List.length_append,Qhb,ZZ Js 44 _ (fun e he=>Xd (h e (List.mem_of_mem_take he))),List.length_take,Nat.min_eq_left hj]
 omega
theorem Qhh (ns:List Int):(ns.flatMap JR).length=4*ns.length:=by
 rw [ZZ JR 4 ns (fun n _=>Q9 n)]
 omega
theorem Qpf (v:Value) (l:List Ent) (w:World) (h:EntsAt w v l) (h32:Yt l) (hl:l.length≤100000) :
  Calls Tryz.prog 108 #[.agg #[v]] w fun e w'=>e=.returned (Qv (ZH l))∧Below w.heap.size w w':=by
 obtain ⟨a,cp,rfl,hn,hcp⟩:=h.shape
 refine Qj (args:=[.agg #[.slice a l.length cp]]) 54 Tryz.func108 Z Z Z<|Qt [(0,.agg #[.slice a l.length cp])] ?_ ⟨Z,tvA⟩
 have bw:=Below.refl w.heap.size w
 refine Qa<|J1 Z Z (fun g1 w1 hB1 hg1 hb hl1=>?_)
 replace bw:=Ql bw hb;have zz1:=hb.size;clear hb
 refine sa Z Z<|Wn<|tN<|Qa<|sbconst (ps:=[(0,.const (.int .u8 70)),(1,.const (.int .u8 65)),(2,.const (.int .u8 78)),(3,.const (.int .u8 49))]) Z (fbs4 70 65 78 49 _) uz114 uz5 (by simp [maxLen]) Z Z Z (fun g10 w2 hR10 hg10 hb=>?_)
 replace hB1:=hB1.belowAll hb;replace bw:=Ql bw hb;clear hb
 skip
 refine sa Z Z<|Wn<|tN<|Qe<|Qa<|st (QE Z hB1 uz101 Z siz101) Z<|sc _ Tryz.func147 Z Qo Z Z (Q3 (Qpx _ l _ (h.bel bw) h32 Qb) fun w3 hb=>?_)
 have pq:=hb;replace bw:=Ql bw hb;replace hB1:=hB1.bel hb;have zz3:=hb.size;clear hb
 refine sm Z Z<|Wn<|tN<|Qp ?_
 replace hR10:=hR10.bel pq;clear pq;refine JG (fun nw4_ lw4_ w4=>∃ k:Nat,∃ v:Value,nw4_=256-k∧lw4_=([(1,.pointer (some ⟨g1,0,none⟩)),(3,v),(13,.agg (cntV l)),(14,.int .i64 k)]:Env)∧(k≤256)∧(Row w4 5 1 v (4+4*k) ((kindB++UF l k).map bv))∧(∀ k,v.ownBlock=some k→w.heap.size≤k)∧(Blk w4 g1 101 #[.slice a l.length cp])∧(Below w.heap.size w w4)) _ ⟨_,⟨0,.slice (some ⟨g10,0,none⟩) 4 4,Z,Z,by omega,hR10,(fun k hk=>by simp [Value.ownBlock] at hk; omega),hB1,bw⟩,⟨Z,Z,Z,Z,tvA⟩⟩ ?_;clear hB1 bw;rintro nw4_ lw4_ w4 ⟨k,v,rfl,rfl,hk,hR,hO,hB1,bw⟩;have zz4:=bw.size;have hlt_hB1_w4:=hB1.lt
 refine Qa<|st (QJ Z Z) Z<|Wn<|tN<|Qe<|Qx Z (fun h15=>?_) (fun h15=>?_)
 ·replace h15:=Qs h15;have hcl:=Qds l k
  refine Qf<|tN<|Qe<|Qp<|Qa<|st (Qoq (j:=k) Z Z uz210 siz3 uz3 Z Z Qb (Qif l k Qb)) Z<|sa Z Z<|Wn<|tN<|Qw<|sm Z Z<|sm Z Z<|sc _ Tryz.func148 Z Qo Z Z<|(HZ v (kindB++UF l k) (4+4*k) _ _ hR (by rw [List.length_append,Ko]; rfl) Qb).mono ?_
  rintro e_ w5 ⟨v',rfl,hR',hC,hO2⟩;refine cR ?_
  have hO':∀ k,v'.ownBlock=some k→w.heap.size≤k:=fun k hk=>by rcases hO2 with hO2|⟨q,hq,hO2⟩; exact hO k (by rw [← hO2]; exact hk); rw [hq] at hk; injection hk with hk; have:=bw.size; omega
  replace hB1:=hB1.chg hC (hR.ne_ hB1 QF);replace bw:=KM bw hC hO;clear hC hO2 hR
  refine sa Z Z<|Wn<|bN<|tN<|Qw<|st (Qn Z Z Qb) Z<|sm Z Z<|Wn<|tN ⟨_,_,?_,⟨k+1,v',Z,Z,by omega,by rw [H1,← List.append_assoc]; simpa [Nat.mul_add,Nat.add_assoc] using hR',hO',hB1,bw⟩,⟨Z,Z,Z,Z,tvA⟩⟩
  omega
 ·replace h15:=Qs h15
  obtain rfl:k=256:=by omega
  rw [show kindB++UF l 256=Xb l from rfl] at hR
  refine QQ<|tE<|tE<|bH<|tN<|Qe<|Qa<|st (Qk KI Z) Z<|st (Qi Z hB1 uz77 Z Z) Z<|st (QT Z Z uz77) Z<|sm Z Z<|Wn<|tN<|Qp<|JG (fun nw6_ lw6_ w6=>∃ j:Nat,∃ v:Value,nw6_=l.length-j∧lw6_=([(1,.pointer (some ⟨g1,0,none⟩)),(3,v),(22,.slice a l.length cp),(23,.int .i64 l.length),(24,.int .i64 j)]:Env)∧(j≤l.length)∧(Row w6 5 1 v (1028+44*j) ((Xb l++(l.take j).flatMap Js).map bv))∧(∀ k,v.ownBlock=some k→w.heap.size≤k)∧(Below w.heap.size w w6)) _ ⟨_,⟨0,v,Z,Z,by omega,(by simpa using hR),hO,bw⟩,⟨Z,Z,Z,Z,Z,tvA⟩⟩ ?_
  clear hO bw;rintro nw6_ lw6_ w6 ⟨j,v,rfl,rfl,hj,hR,hO,bw⟩;have zz6:=bw.size
  refine Qa<|st (QJ Z Z) Z<|Wn<|tN<|Qe<|Qx Z (fun h25=>?_) (fun h25=>?_)
  ·replace h25:=Qs h25
   obtain ⟨x,hx⟩:∃ x,l[j]?=some x:=⟨_,List.getElem?_eq_getElem Qb⟩
   obtain ⟨g1',o1,c',hv,hg1'⟩:=(h.bel bw).some_ Qb;injection hv with e1 _ e3;subst e1 e3;have hxs:=h32 x (List.mem_of_getElem? hx)
   obtain ⟨base,hbase⟩:∃ q,Xb l++(l.take j).flatMap Js=q:=⟨_,rfl⟩
   have hbl:base.length=1028+44*j:=by rw [← hbase]; exact VX h32 j hj
   refine Qf<|tN<|Qe<|Qp<|Qa<|st (QA Z Z uz77 siz59 Z Qb) Z<|st (Jw (cs:=x.cells) Z uz59 Z (by rw [Ent.cells_length hxs]; exact siz59) (EntsAt.range (h.bel bw) h32 hx)) Z ?_
   refine Jm inf59 Z (fun g7 w7 hB7 hg7 hb hl7=>?_);have pq:=hb;replace bw:=Ql bw hb;have zz7:=hb.size;clear hb;refine QY Z Z hB7 (by rw [Ent.size hxs]; exact siz59) (by rw [Ent.size hxs]; rfl) (Ent.cells_one x) (fun w8 bB cC=>?_);replace hB7:=bB;clear bB;replace pq:=Ji pq cC Qb;replace bw:=Ji bw cC Qb;have zz8:=cC.size;clear cC
   refine Wn<|tN<|Qa<|sm Z Z<|st (Qk Y0 Z) Z<|st (XZ Z uz57 siz5) Z ?_
   replace hR:=hR.bel pq;clear pq;refine Z4 Z Z uz114 inf5 Z QF hR (entSrc hB7 hxs uz114) (by simp only [maxLen]; omega) Qb Z (fun v1 w9 hR1 hC hv1=>?_);replace hB7:=hB7.chg hC (hR.ne_ hB7 QF);have hO1:=JE hv1 hO Qb;replace bw:=KM bw hC hO;rw [hbase,← List.map_append] at hR1;clear hC hR
   refine sa Z Z<|Wn<|tN<|Qa<|st (Qk Qho Z) Z<|st (Z0 Z hB7 uz3 Z (Ent.cell_ hxs 0 _ Z)) Z<|st (Qk H4 Z) Z<|st (Z0 Z hB7 uz3 Z (Ent.cell_ hxs 1 _ Z)) Z<|st (Qk Vv Z) Z<|st (Z0 Z hB7 uz3 Z (Ent.cell_ hxs 2 _ Z)) Z<|st (Ja Z (b3arr _ _ _ _)) Z<|sm Z Z<|Wn<|tN<|Qp<|JG (fun nw10_ lw10_ w10=>∃ i:Nat,∃ v:Value,nw10_=3-i∧lw10_=([(1,.pointer (some ⟨g1,0,none⟩)),(3,v),(22,.slice (some ⟨g1',o1,none⟩) l.length cp),(23,.int .i64 l.length),(24,.int .i64 j),(38,.agg #[.int .i64 x.pack,.int .i64 x.pos,.int .i64 x.len]),(39,.int .i64 i)]:Env)∧(i≤3)∧(Row w10 5 1 v (1028+44*j+32+4*i) ((base++x.sum++([x.pack,x.pos,x.len].take i).flatMap JR).map bv))∧(∀ k,v.ownBlock=some k→w.heap.size≤k)∧(Below w.heap.size w w10)) _ ⟨_,⟨0,v1,Z,Z,by omega,(by simpa using hR1),hO1,bw⟩,⟨Z,Z,Z,Z,Z,Z,Z,tvA⟩⟩ ?_
   clear bw;rintro nw10_ lw10_ w10 ⟨i,v,rfl,rfl,hi,hR,hO,bw⟩;have zz10:=bw.size
   refine Qa<|st (QJ Z Z) Z<|Wn<|tN<|Qe<|Qx Z (fun h40=>?_) (fun h40=>?_)
   ·replace h40:=Qs h40
    obtain ⟨n1,hn1⟩:∃ n1,[x.pack,x.pos,x.len][i]?=some n1:=⟨_,List.getElem?_eq_getElem (by simp; omega)⟩
    have hcell:(#[Value.int .i64 x.pack,.int .i64 x.pos,.int .i64 x.len]:Array Value)[i]?=some (.int .i64 n1):=by
     have e:=congrArg (Option.map (Value.int .i64)) hn1;rw [← List.getElem?_map] at e;rw [List.getElem?_toArray];exact e
    refine Qf<|tN<|Qe<|Qp<|Qa<|st (Qoq (j:=i) Z Z Tryz.underlying213 siz3 uz3 Z Z Qb hcell) Z<|sa Z Z<|Wn<|tN<|Qw<|sm Z Z<|sm Z Z<|sc _ Tryz.func148 Z Qo Z Z<|(HZ v _ _ _ _ hR (by rw [List.length_append,List.length_append,hbl,hxs,Qhh,List.length_take,Nat.min_eq_left (by simpa using hi)]) Qb).mono ?_
    rintro e_ w11 ⟨v',rfl,hR',hC,hO2⟩;refine cR ?_
    have hO':∀ k,v'.ownBlock=some k→w.heap.size≤k:=fun k hk=>by rcases hO2 with hO2|⟨q,hq,hO2⟩; exact hO k (by rw [← hO2]; exact hk); rw [hq] at hk; injection hk with hk; have:=bw.size; omega
    replace bw:=KM bw hC hO;clear hC hO2 hR
    refine sa Z Z<|Wn<|bN<|tN<|Qw<|st (Qn Z Z Qb) Z<|sm Z Z<|Wn<|tN ⟨_,_,?_,⟨i+1,v',Z,Z,by omega,by rw [QK hn1,List.flatMap_append,← List.append_assoc]; simpa [Nat.mul_add,Nat.add_assoc] using hR',hO',bw⟩,⟨Z,Z,Z,Z,Z,Z,Z,tvA⟩⟩
    omega
   ·replace h40:=Qs h40
    obtain rfl:i=3:=by omega
    rw [show ([x.pack,x.pos,x.len].take 3).flatMap JR=JR x.pack++(JR x.pos++JR x.len) by simp,← hbase] at hR
    refine QQ<|tE<|tE<|bH<|bN<|tN<|Qw<|st (Qn Z Z Qb) Z<|sm Z Z<|Wn<|tN ⟨_,_,?_,⟨j+1,v,Z,Z,by omega,by rw [QK hx,List.flatMap_append,← List.append_assoc]; simpa [Js,Nat.mul_add,Nat.add_assoc] using hR,hO,bw⟩,⟨Z,Z,Z,Z,Z,tvA⟩⟩
    omega
  ·replace h25:=Qs h25
   obtain rfl:j=l.length:=by omega
   rw [List.take_length,show Xb l++l.flatMap Js=Kg l from rfl] at hR;have hbl:=YH h32
   refine QQ<|tE<|tE<|bH<|tN<|Qa<|sm Z Z<|sm Z Z<|st (Zs (s:=Kg l) Z uz114 uz5 uz9 hR.reads) Z<|sc _ fz78 Z Qo Z Z (Q3 (Qbp (Kg l) _ Qb) fun w12 hb=>?_)
   have pq:=hb;replace bw:=Ql bw hb;have zz12:=hb.size;clear hb;refine st (QM (z:=((Crc.crc (Kg l)).toNat:Int)) Z uz143 uz3 (U8 (by have:=(Crc.crc (Kg l)).toNat_lt; omega))) Z ?_;replace hR:=hR.bel pq;clear pq
   refine sc _ Tryz.func148 Z Qo Z Z<|(HZ v (Kg l) _ _ _ hR hbl Qb).mono ?_
   rintro e_ w13 ⟨v',rfl,hR',hC,hO2⟩;refine cR ?_;replace bw:=KM bw hC hO;clear hC hO2 hR
   refine st (Zs (s:=ZH l) Z uz114 uz5 uz9 hR'.reads) Z<|sa Z Z<|Wn<|tN<|Qg ?_
   exact (rT Z Z ⟨Z,bw⟩).1
end
section
open Go.RowKit
theorem Qlk (s:List UInt8) (w:World) (hs:s.length<10000000):Calls Tryz.prog 149 #[Qv s] w fun e w'=>e=.returned (.tuple #[.int .i64 (if J5 s=0 then (num (s.drop 1024):Nat) else 0:Nat),.int .i64 (J5 s)])∧Below w.heap.size w w':=by
 have hnl:=HM (s.drop 1024)
 obtain ⟨c,hc⟩:∃ c,J5 s=c:=⟨_,rfl⟩
 rw [hc];unfold J5 at hc
 refine Qj (args:=[Qv s]) 45 Tryz.func149 Z Z Z<|Qt [(0,Qv s)] ?_ ⟨Z,tvA⟩
 have bw:=Below.refl w.heap.size w
 refine Qa<|sa Z Z<|sa Z Z<|Wn<|tN<|Qe<|Qp<|Qa<|sm Z Z<|st (QP Z Z uz9) Z<|st (QJ Z Z) Z<|sa Z Z<|Wn<|tN<|Qx Z (fun h6=>?_) (fun h6=>?_)
 ·replace h6:=Qs h6
  refine Qa<|sa Z Z<|sa Z Z<|Wn<|tN<|Qg<|bR<|tR ?_
  rw [if_pos Qb] at hc;subst hc;exact (J6 Z Z Z ⟨Z,bw⟩).1
 ·replace h6:=Qs h6
  refine Qa<|sm Z Z<|st (KQ (j:=4) Z Z uz9 Z Qb) Z<|st (Y7 (b:=kindB) Z Z) Z<|sa Z Z<|Wn<|tN<|Qx Z (fun h10=>?_) (fun h10=>?_)
  ·replace h10:=Qs h10
   refine Qa<|sa Z Z<|sa Z Z<|Wn<|tN<|Qg<|bR<|tR ?_
   rw [if_neg Qb,if_pos h10] at hc;subst hc;exact (J6 Z Z Z ⟨Z,bw⟩).1
  ·replace h10:=Qs h10;rw [if_neg Qb,if_neg h10] at hc
   refine Qf<|bN<|tN<|Qa<|sm Z Z<|sc _ fz150 Z Qo Z Z (Q3 (ZN s 1024 _ Qb Qb) fun w1 hb=>?_)
   replace bw:=Ql bw hb;have zz1:=hb.size;clear hb
   refine sa Z Z<|Wn<|tN<|Qa<|sm Z Z<|st (Kl Z Z Qb) Z<|st (Qn Z Z Qb) Z<|sa Z Z<|Wn<|tN<|Qe<|Qp<|Qa<|sm Z Z<|st (Jg Z Z) Z<|sa Z Z<|Wn<|tN<|Qx Z (fun h19=>?_) (fun h19=>?_)
   ·replace h19:=Qs h19
    refine Qa<|sa Z Z<|sa Z Z<|Wn<|tN<|Qg<|bR<|tR ?_
    rw [if_pos Qb] at hc;subst hc;exact (J6 Z Z Z ⟨Z,bw⟩).1
   ·replace h19:=Qs h19
    refine Qa<|sm Z Z<|st (QP Z Z uz9) Z<|sm Z Z<|st (QJ Z Z) Z<|sa Z Z<|Wn<|tN<|Qx Z (fun h22=>?_) (fun h22=>?_)
    ·replace h22:=Qs h22
     refine Qa<|sa Z Z<|sa Z Z<|Wn<|tN<|Qg<|bR<|tR ?_
     rw [if_neg Qb,if_pos Qb] at hc;subst hc;exact (J6 Z Z Z ⟨Z,bw⟩).1
    ·replace h22:=Qs h22
     refine Qa<|sm Z Z<|st (QP Z Z uz9) Z<|sm Z Z<|st (Jg Z Z) Z<|sa Z Z<|Wn<|tN<|Qx Z (fun h27=>?_) (fun h27=>?_)
     ·replace h27:=Qs h27
      refine Qa<|sa Z Z<|sa Z Z<|Wn<|tN<|Qg<|bR<|tR ?_
      rw [if_neg Qb,if_neg Qb,if_pos Qb] at hc;subst hc;exact (J6 Z Z Z ⟨Z,bw⟩).1
     ·replace h27:=Qs h27;rw [if_neg Qb,if_neg Qb,if_neg Qb] at hc
      have hlen:s.length=1032+44*num (s.drop 1024):=by omega
      refine QS (fun _=>True) [0,1,2,4,5,6,7,3,8,9,10,11] [Y,Y,Y,Y,Y,Y,Y,false,false,Y,Y,Y] Qo Qo (trivial) ?_;obtain ⟨w2,hw_,hb⟩:=QN w1;rw [← hw_];clear hw_;have hS:True:=trivial;replace bw:=Ql bw hb;have zz2:=hb.size;clear hb
      refine oY Z (fun G U=>(Qd Z)) Z<|oY Z (fun G U=>(Qd Z)) Z<|oY Z (fun G U=>(V5 Z Z (show IntKind.i64.wrap (1032+((num (s.drop 1024):Nat):Int)*44-4)=((s.length-4:Nat):Int) by rw [U8 Qb]; omega))) Z ?_
      refine oY Z (fun G U=>(Qd Z)) Z<|oY Z (fun G U=>(Qd Z)) Z<|oY Z (fun G U=>(V5 Z Z (show IntKind.i64.wrap (1032+((num (s.drop 1024):Nat):Int)*44-4)=((s.length-4:Nat):Int) by rw [U8 Qb]; omega))) Z ?_
      refine oY Z (fun G U=>(KQ Z Z uz9 Z Qb)) Z<|oL Z (fun Q_ hQ_ hP_=>(sc _ fz150 Z Qo Z Z (Q3 (ZN s (s.length-4) _ Qb Qb) fun w3 hb=>?_)))
      replace bw:=Ql bw hb;have zz3:=hb.size;clear hb
      refine Wn<|hQ_ _ _ trivial ?_
      clear hQ_ hP_ Q_;refine oL Z (fun Q_ hQ_ hP_=>(sc _ fz78 Z Qo Z Z (Q3 (Qbp (s.take (s.length-4)) _ (by rw [List.length_take]; omega)) fun w4 hb=>?_)));replace bw:=Ql bw hb;have zz4:=hb.size;clear hb
      refine Wn<|hQ_ _ _ trivial ?_
      clear hQ_ hP_ Q_;refine oY Z (fun G U=>(QM (z:=((Crc.crc (s.take (s.length-4))).toNat:Int)) Z uz143 uz3 (U8 (by have:=(Crc.crc (s.take (s.length-4))).toNat_lt; omega)))) Z ?_
      refine oY Z (fun G U=>(QC Z Z)) Z<|oY Z (fun G U=>(Qy Z)) Z<|oN<|nN<|Qx Z (fun h32=>?_) (fun h32=>?_)
      ·replace h32:=Qs h32
       refine Qa<|sa Z Z<|sa Z Z<|Wn<|tN<|Qg<|bR<|tR ?_
       rw [if_pos Qb] at hc;subst hc;exact (J6 Z Z Z ⟨Z,bw⟩).1
      ·replace h32:=Qs h32
       refine Qf<|bN<|tN<|Qa<|sm Z Z<|sa Z Z<|sa Z Z<|Wn<|tN<|Qg ?_
       rw [if_neg Qb] at hc;subst hc;exact (J6 Z Z Z ⟨Z,bw⟩).1
def FilledE (cs:Array Value) (n j:Nat) (l:List Ent):Prop:=cs.size=n*35∧cs.toList.take (j*35)=(l.take j).flatMap Ent.cells
theorem set3 (A C:List Value) (u v x:Value) (p:Nat) (hp:A.length=p) (hC:3≤C.length):(((A++C).set p u).set (p+1) v).set (p+2) x=A++[u,v,x]++C.drop 3:=by
 subst hp
 match C,hC with
 | c0::c1::c2::C,_ =>
  rw [List.set_append_right _ _ (Nat.le_refl _),List.set_append_right _ _ Qb,List.set_append_right _ _ Qb]
  simp
theorem FilledE.next {cs:Array Value} {n j:Nat} {l:List Ent} {x:Ent} (h:FilledE cs n j l) (hj:j<n) (hx:l[j]?=some x) (hs:x.sum.length=32) :
  FilledE ((((cs.toList.take (j*35)++x.sum.map bv++cs.toList.drop (j*35+32)).toArray.setIfInBounds (j*35+32) (.int .i64 x.pack)).setIfInBounds (j*35+33) (.int .i64 x.pos)).setIfInBounds (j*35+34) (.int .i64 x.len)) n (j+1) l:=by
 obtain ⟨h1,h2⟩:=h
 have hlen:cs.toList.length=n*35:=by simpa using h1
 have hb:(j+1)*35≤n*35:=Nat.mul_le_mul_right 35 hj
 have e1:(cs.toList.take (j*35)).length=j*35:=by rw [List.length_take]; omega
 refine ⟨by simp [hs]; omega,?_⟩;simp only [List.setIfInBounds_toArray];rw [set3 (cs.toList.take (j*35)++x.sum.map bv) (cs.toList.drop (j*35+32)) _ _ _ (j*35+32) (by rw [List.length_append,e1,List.length_map,hs]) (by rw [List.length_drop]; omega)];rw [QK hx,List.flatMap_append,← h2,List.append_assoc (cs.toList.take (j*35))];rw [List.take_left' (by simp [hs]; omega)];simp [Ent.cells]
theorem Qag {w:World} {g:Nat} {t:TypeId} {cs:Array Value} {n j i:Nat} {l:List Ent} {x:Ent} (hB:Blk w g t cs) (hf:FilledE cs n j l) (hl:Yt l) (hi:i<j) (hx:l[i]?=some x):w.rangeAt g (0+i*35+0) (x.sum.map bv):=fun q v hv=>by
 have hxs:=hl x (List.mem_of_getElem? hx)
 have hq:q<32:=by have:=(List.getElem?_eq_some_iff.1 hv).1; simpa [hxs] using this
 have h1:=VT Ent.cells 35 (l.take j) i x (fun a ha=>Ent.cells_length (hl a (List.mem_of_mem_take ha))) (by rw [List.getElem?_take_of_lt hi]; exact hx)
 have h2:(x.cells)[q]?=some v:=by
  unfold Ent.cells;rw [List.getElem?_append_left (by rw [List.length_map,hxs]; exact hq)];exact hv
 rw [← h1,← hf.2,List.getElem?_take,if_pos Qb,List.getElem?_drop,List.getElem?_take] at h2;rw [if_pos (by have:(i+1)*35≤j*35:=Nat.mul_le_mul_right 35 hi; omega)] at h2;rw [hB.cell,← Array.getElem?_toList,show 0+i*35+0+q=i*35+q by omega];exact h2
theorem Qfu {s:List UInt8} (h:J5 s≠0):K3 s=([],J5 s):=by unfold K3; rw [if_pos h]
theorem Qvt {s:List UInt8} (h:J5 s=0) (h2:upB (lE s)=false):K3 s=([],18):=by unfold K3; rw [if_neg (by rw [h]; simp),if_pos h2]
theorem dec_12 {s:List UInt8} (h:J5 s=0) (h2:upB (lE s)=true) {k:Nat} (hk:k<256) (h3:num (s.drop (4+4*k))≠Y3 (lE s) k):K3 s=([],12):=by
 unfold K3;rw [if_neg (by rw [h]; simp),if_neg (by rw [h2]; simp),if_neg];intro he
 exact h3<|(Qpz h).1 he k hk
theorem dec_0 {s:List UInt8} (h:J5 s=0) (h2:upB (lE s)=true) (h3:H0 s (lE s) 256):K3 s=(lE s,0):=by
 unfold K3;rw [if_neg (by rw [h]; simp),if_neg (by rw [h2]; simp),if_pos ((Qpz h).2 h3)]
theorem EntsAt.chgB {w w':World} {g o n c k:Nat} {l:List Ent} (h:EntsAt w (.slice (some ⟨g,o,none⟩) n c) l) (hc:Chg (fun q=>q=k) w w') (hk:g≠k):EntsAt w' (.slice (some ⟨g,o,none⟩) n c) l:=by
 obtain ⟨h1,a,cap,e,h3,h4,h5⟩:=h;refine ⟨h1,a,cap,e,h3,h4,fun h0=>?_⟩;obtain ⟨g',off,rfl,hg,hcl⟩:=h5 h0;injection e with e1;injection e1 with e1;injection e1 with e1;subst e1
 have:=hc.size
 exact ⟨_,off,Z,by omega,fun j u hu=>(hc.cell (p:=⟨g,off+j,none⟩) hg hk).trans (hcl j u hu)⟩
theorem Qpg (s:List UInt8) (w:World) (hs:s.length<10000000):Calls Tryz.prog 112 #[Qv s] w (Hi w (K3 s)):=by
 refine Qj (args:=[Qv s]) 106 Tryz.func112 Z Z Z<|Qt [(0,Qv s)] ?_ ⟨Z,tvA⟩
 have bw:=Below.refl w.heap.size w
 refine Qa<|Jm inf101 Z (fun g2 w1 hB2 hg2 hb hl2=>?_)
 replace bw:=Ql bw hb;have zz1:=hb.size;clear hb
 refine sa Z Z<|Wn<|tN<|Qa<|sm Z Z<|sc _ Tryz.func149 Z Qo Z Z (Q3 (Qlk s _ hs) fun w2 hb=>?_)
 replace bw:=Ql bw hb;replace hB2:=hB2.bel hb;have zz2:=hb.size;clear hb
 refine sm Z Z<|st (Qu Z Z) Z<|st (Qu Z Z) Z<|sa Z Z<|sa Z Z<|Wn<|tN<|Qe<|Qa<|sm Z Z<|st (QC Z Z) Z<|Wn<|tN<|Qx Z (fun h17=>?_) (fun h17=>?_)
 ·replace h17:=Qs h17
  refine Qa<|st (Ja Z (Y6 _)) Z<|sm Z Z<|QY Z Z hB2 siz101 Z Z (fun w3 bB cC=>?_)
  replace hB2:=bB;clear bB;replace bw:=Ji bw cC Qb;have zz3:=cC.size;clear cC
  refine sa Z Z<|Wn<|tN<|Qg<|tR ?_
  exact (KW Z Z hB2 uz101 Z siz101 Z (UB (Qfu h17) bw)).1
 ·replace h17:=Qs h17;have h0:J5 s=0:=Classical.not_not.1 h17;rw [if_pos h0];obtain ⟨c1,c2,c3,c4,c5⟩:=VZ h0
  obtain ⟨n,hn⟩:∃ n,num (s.drop 1024)=n:=⟨_,rfl⟩
  obtain ⟨L,hL⟩:∃ L,lE s=L:=⟨_,rfl⟩
  have hLl:L.length=n:=by rw [← hL,← hn]; exact entsOf_length _ _
  have hL32:Yt L:=by rw [← hL]; exact Qnj h0
  rw [hn];rw [hn] at c3 c4
  refine Qf<|tN<|Qa<|sm Z Z<|smkB Z Z Z Z uz77 inf59 Qb (by simp only [maxLen]; omega) Z (fun gL w4 hLB hgL hb hlL=>?_)
  replace hB2:=hB2.belowAll hb;replace bw:=Ql bw hb;clear hb
  refine st (Ja Z (bidx _ _ _ _)) Z<|Jm inf101 Z (fun g6 w5 hB6 hg6 hb hl6=>?_)
  have pq:=hb;replace bw:=Ql bw hb;replace hB2:=hB2.bel hb;have zz5:=hb.size;clear hb;refine QY Z Z hB6 siz101 Z Z (fun w6 bB cC=>?_);replace hB6:=bB;clear bB;replace pq:=Ji pq cC Qb;replace hB2:=hB2.chg cC Z5;replace bw:=Ji bw cC Qb;have zz6:=cC.size;clear cC
  refine Wn<|tN<|Qe<|Qa<|st (Qk KI Z) Z<|st (Qi Z hB6 uz77 Z Z) Z<|st (QT Z Z uz77) Z<|sm Z Z<|Wn<|tN<|Qp ?_
  replace hLB:=hLB.bel pq;clear pq;refine JG (fun nw7_ lw7_ w7=>∃ j:Nat,∃ cs:Array Value,nw7_=n-j∧lw7_=([(0,Qv s),(2,.pointer (some ⟨g2,0,none⟩)),(6,.pointer (some ⟨g6,0,none⟩)),(25,.int .i64 n),(26,.int .i64 j)]:Env)∧(j≤n)∧(Blk w7 g2 101 #[.slice none 0 0])∧(Blk w7 g6 101 #[.slice (some ⟨gL,0,none⟩) n n])∧(Blk w7 gL 59 cs)∧(FilledE cs n j L)∧(upB (L.take j)=true)∧(Below w.heap.size w w7)) _ ⟨_,⟨0,_,Z,Z,by omega,hB2,hB6,hLB,⟨Qcu _ _,by simp⟩,Z,bw⟩,⟨Z,Z,Z,Z,Z,tvA⟩⟩ ?_;clear hB2 hB6 hLB bw;rintro nw7_ lw7_ w7 ⟨j,cs,rfl,rfl,hj,hB2,hB6,hLB,hf,hso,bw⟩;have zz7:=bw.size;have hlt_hB2_w7:=hB2.lt;have hlt_hB6_w7:=hB6.lt
  refine Qa<|st (QJ Z Z) Z<|Wn<|tN<|Qe<|Qx Z (fun h27=>?_) (fun h27=>?_)
  ·replace h27:=Qs h27
   obtain ⟨x,hx⟩:∃ x,L[j]?=some x:=⟨_,List.getElem?_eq_getElem Qb⟩
   have hx':=entsOf_at (num (s.drop 1024)) (s.drop 1028) j Qb;rw [show entsOf (num (s.drop 1024)) (s.drop 1028)=L from hL,hx] at hx';injection hx' with hx';have hxs:=hL32 x (List.mem_of_getElem? hx);simp only [List.drop_drop] at hx';have hfs:=hf.1
   refine Qf<|tN<|Qe<|Qp<|Qa<|sm Z Z<|sa Z Z<|Wn<|tN<|Qa<|sm Z Z<|st (Kl Z Z Qb) Z<|st (Yx Z Z (show IntKind.i64.wrap (1028+(j:Int)*44)=((1028+44*j:Nat):Int) by rw [U8 Qb]; omega)) Z ?_
   refine sa Z Z<|Wn<|tN<|UJ 9 Qo Qo ?_
   obtain ⟨w8,hw_,hb⟩:=QN w7;rw [← hw_];clear hw_;replace bw:=Ql bw hb;replace hB2:=hB2.bel hb;replace hB6:=hB6.bel hb;replace hLB:=hLB.bel hb;have zz8:=hb.size;clear hb
   refine hY (Qk KI Z) Z<|hY (Qi Z hB6 uz77 Z Z) Z<|hY (Qd Z) Z<|hY (QA Z Z uz77 siz59 Z Qb) Z<|hY (Qk Y0 Z) Z<|hY (XZ Z uz57 siz5) Z<|hY (Qd Z) Z<|hY (Qd Z) Z<|hY (Ka (i:=1028+44*j) Z Z uz9 Z Qb) Z<|hN<|scpT Z Z uz114 siz5 hLB (by rw [List.length_drop]; omega) (by rw [hfs]; omega) Z (fun w9 hLB_ cC=>?_)
   replace hB2:=hB2.chg cC (by show ¬_=_; omega);replace hB6:=hB6.chg cC (by show ¬_=_; omega);replace bw:=Ji bw cC Qb;have hz_c:=cC.size;replace hLB:=hLB_;clear hLB_ cC
   refine Wn<|tN<|QS (fun G=>Blk G g6 101 #[.slice (some ⟨gL,0,none⟩) n n]) [0,1,2,3,4,5,6,7,8,9,10,11,13,14,15,17,18,19,12,16,20,21,22,23,24,25,26,27,28,29] [Y,Y,Y,Y,Y,Y,Y,Y,Y,Y,Y,Y,Y,Y,Y,Y,Y,Y,false,false,false,Y,Y,false,Y,Y,false,Y,Y,false] Qo Qo (hB6.drew) ?_
   obtain ⟨w10,hw_,hb⟩:=QN w9;rw [← hw_];clear hw_;have hS:=hb;replace bw:=Ql bw hb;replace hB2:=hB2.bel hb;replace hB6:=hB6.bel hb;replace hLB:=hLB.bel hb;have zz10:=hb.size;clear hb
   refine oY Z (fun G U=>(Qk KI Z)) Z<|oY Z (fun G U=>(Z0 Z U uz77 Z Z)) Z<|oY Z (fun G U=>(Qd Z)) Z<|oY Z (fun G U=>(Qk KI Z)) Z<|oY Z (fun G U=>(Z0 Z U uz77 Z Z)) Z<|oY Z (fun G U=>(Qd Z)) Z<|oY Z (fun G U=>(Qk KI Z)) Z<|oY Z (fun G U=>(Z0 Z U uz77 Z Z)) Z<|oY Z (fun G U=>(Qd Z)) Z<|oY Z (fun G U=>(Qd Z)) Z<|oY Z (fun G U=>(Qd Z)) Z<|oY Z (fun G U=>(Yx Z Z (show IntKind.i64.wrap (((1028+44*j:Nat):Int)+32)=((1028+44*j+32:Nat):Int) by rw [U8 Qb]; omega))) Z ?_
   refine oY Z (fun G U=>(Qd Z)) Z<|oY Z (fun G U=>(Qd Z)) Z<|oY Z (fun G U=>(Yx Z Z (show IntKind.i64.wrap (((1028+44*j:Nat):Int)+36)=((1028+44*j+36:Nat):Int) by rw [U8 Qb]; omega))) Z ?_
   refine oY Z (fun G U=>(Qd Z)) Z<|oY Z (fun G U=>(Qd Z)) Z<|oY Z (fun G U=>(Yx Z Z (show IntKind.i64.wrap (((1028+44*j:Nat):Int)+40)=((1028+44*j+40:Nat):Int) by rw [U8 Qb]; omega))) Z ?_
   refine oL Z (fun Q_ hQ_ hP_=>(sc _ fz150 Z Qo Z Z (Q3 (ZN s (1028+44*j+32) _ Qb Qb) fun w11 hb=>?_)));replace bw:=Ql bw hb;replace hB2:=hB2.bel hb;replace hB6:=hB6.bel hb;replace hLB:=hLB.bel hb;have zz11:=hb.size;clear hb
   refine Wn<|hQ_ _ _ (hB6) ?_
   clear hQ_ hP_ Q_;refine oL Z (fun Q_ hQ_ hP_=>(sc _ fz150 Z Qo Z Z (Q3 (ZN s (1028+44*j+36) _ Qb Qb) fun w12 hb=>?_)));replace bw:=Ql bw hb;replace hB2:=hB2.bel hb;replace hB6:=hB6.bel hb;replace hLB:=hLB.bel hb;have zz12:=hb.size;clear hb
   refine Wn<|hQ_ _ _ (hB6) ?_
   clear hQ_ hP_ Q_;refine oL Z (fun Q_ hQ_ hP_=>(sc _ fz150 Z Qo Z Z (Q3 (ZN s (1028+44*j+40) _ Qb Qb) fun w13 hb=>?_)));replace bw:=Ql bw hb;replace hB2:=hB2.bel hb;replace hB6:=hB6.bel hb;replace hLB:=hLB.bel hb;have zz13:=hb.size;clear hb
   refine Wn<|hQ_ _ _ (hB6) ?_
   clear hQ_ hP_ Q_
   refine oY Z (fun G U=>(QA Z Z uz77 siz59 Z Qb)) Z<|oY Z (fun G U=>(Qk Qho Z)) Z<|oL Z (fun Q_ hQ_ hP_=>(KL Z Z hLB siz3 Z (by rw [Xk _ _ _ _ (by rw [List.length_take,List.length_drop]; omega) (by rw [hfs]; omega),hfs]; omega) (fun w14 hLB_ cC=>?_)))
   replace hB2:=hB2.chg cC (by show ¬_=_; omega);replace hB6:=hB6.chg cC (by show ¬_=_; omega);replace bw:=Ji bw cC Qb;have hz_d:=cC.size;replace hLB:=hLB_;clear hLB_ cC
   refine Wn<|hQ_ _ _ (hB6) ?_
   clear hQ_ hP_ Q_
   refine oY Z (fun G U=>(QA Z Z uz77 siz59 Z Qb)) Z<|oY Z (fun G U=>(Qk H4 Z)) Z<|oL Z (fun Q_ hQ_ hP_=>(KL Z Z hLB siz3 Z (by rw [Array.size_setIfInBounds,Xk _ _ _ _ (by rw [List.length_take,List.length_drop]; omega) (by rw [hfs]; omega),hfs]; omega) (fun w15 hLB_ cC=>?_)))
   replace hB2:=hB2.chg cC (by show ¬_=_; omega);replace hB6:=hB6.chg cC (by show ¬_=_; omega);replace bw:=Ji bw cC Qb;have hz_e:=cC.size;replace hLB:=hLB_;clear hLB_ cC
   refine Wn<|hQ_ _ _ (hB6) ?_
   clear hQ_ hP_ Q_
   refine oY Z (fun G U=>(QA Z Z uz77 siz59 Z Qb)) Z<|oY Z (fun G U=>(Qk Vv Z)) Z<|oL Z (fun Q_ hQ_ hP_=>(KL Z Z hLB siz3 Z (by rw [Array.size_setIfInBounds,Array.size_setIfInBounds,Xk _ _ _ _ (by rw [List.length_take,List.length_drop]; omega) (by rw [hfs]; omega),hfs]; omega) (fun w16 hLB_ cC=>?_)))
   replace hB2:=hB2.chg cC (by show ¬_=_; omega);replace hB6:=hB6.chg cC (by show ¬_=_; omega);replace bw:=Ji bw cC Qb;have hz_f:=cC.size;replace hLB:=hLB_;clear hLB_ cC;replace hf:=hf.next Qb hx hxs
   have hx1:x.sum=(s.drop (1028+44*j)).take 32:=by rw [hx']
   have hx2:x.pack=num (s.drop (1028+44*j+32)):=by rw [hx',Nat.add_assoc]
   have hx3:x.pos=num (s.drop (1028+44*j+36)):=by rw [hx',Nat.add_assoc]
   have hx4:x.len=num (s.drop (1028+44*j+40)):=by rw [hx',Nat.add_assoc]
   rw [hx1,hx2,hx3,hx4] at hf;simp only [Nat.zero_add,Nat.add_zero,Nat.add_assoc] at hLB hf
   refine Wn<|hQ_ _ _ (hB6) ?_
   clear hQ_ hP_ Q_
   refine oN<|nN ?_
   by_cases hsp_:0<j
   ·obtain ⟨y,hy⟩:∃ y,L[j-1]?=some y:=⟨_,List.getElem?_eq_getElem Qb⟩
    have hy':L[j-1+1]?=some x:=by rw [show j-1+1=j by omega]; exact hx
    have hys:=hL32 y (List.mem_of_getElem? hy);refine QS (fun G=>Blk G g6 101 #[.slice (some ⟨gL,0,none⟩) n n]∧∃ cx,Blk G gL 59 cx∧FilledE cx n (j+1) L) [0,1,2,3,4,5,6,7,8,9,10,11,12,13,14,15,16,17,18] [Y,Y,Y,Y,Y,Y,Y,Y,Y,Y,Y,Y,Y,Y,Y,Y,false,Y,Y] Qo Qo (⟨hB6.drew,_,hLB.drew,hf⟩) ?_;obtain ⟨w17,hw_,hb⟩:=QN w16;rw [← hw_];clear hw_;have hS:=hb;replace bw:=Ql bw hb;replace hB2:=hB2.bel hb;replace hB6:=hB6.bel hb;replace hLB:=hLB.bel hb;have zz17:=hb.size;clear hb
    refine oY Z (fun G U=>(Qd Z)) Z<|oY Z (fun G U=>(Jg Z Z)) Z<|oY Z (fun G U=>(Jf (c:=true) Z (decide_eq_true Qb))) Z<|Q4 Z Z Z Z (fun G U=>(Qk KI Z)) Z<|Q4 Z Z Z Z (fun G U=>(Z0 Z U.1 uz77 Z Z)) Z<|Q4 Z Z Z Z (fun G U=>(Qd Z)) Z<|Q4 Z Z Z Z (fun G U=>(V5 Z Z (show IntKind.i64.wrap ((j:Int)-1)=((j-1:Nat):Int) by rw [U8 Qb]; omega))) Z ?_
    refine Q4 rfl rfl rfl rfl (fun G U=>(QA rfl rfl uz77 siz59 rfl Qb)) rfl<|Q4 rfl rfl rfl rfl (fun G U=>(Qk Y0 rfl)) rfl<|Q4 rfl rfl rfl rfl (fun G U=>(Jw (cs:=y.sum.map bv) rfl uz57 rfl (by rw [List.length_map,hys]; exact siz57) (by obtain ⟨_,cx,h1,h2⟩:=U; exact Qag h1 h2 hL32 Qb hy))) rfl ?_
    refine Q4 rfl rfl rfl rfl (fun G U=>(Qk KI rfl)) rfl<|Q4 rfl rfl rfl rfl (fun G U=>(Z0 rfl U.1 uz77 rfl rfl)) rfl<|Q4 rfl rfl rfl rfl (fun G U=>(Qd rfl)) rfl<|Q4 rfl rfl rfl rfl (fun G U=>(QA rfl rfl uz77 siz59 rfl Qb)) rfl<|Q4 rfl rfl rfl rfl (fun G U=>(Qk Y0 rfl)) rfl<|Q4 rfl rfl rfl rfl (fun G U=>(Jw (cs:=x.sum.map bv) rfl uz57 rfl (by rw [List.length_map,hxs]; exact siz57) (by obtain ⟨_,cx,h1,h2⟩:=U; exact Qag h1 h2 hL32 Qb hx))) rfl ?_
    refine oL Z (fun Q_ hQ_ hP_=>(gY Z Z Z (sc _ Tryz.func151 Z Qo Z Z (Q3 (Qxk y.sum x.sum hys hxs _) fun w18 hb=>?_))));replace bw:=Ql bw hb;replace hB2:=hB2.bel hb;replace hB6:=hB6.bel hb;replace hLB:=hLB.bel hb;have zz18:=hb.size;clear hb
    refine Wn<|hQ_ _ _ (⟨hB6,_,hLB,hf⟩) ?_
    clear hQ_ hP_ Q_
    refine Q4 Z Z Z Z (fun G U=>(Jk Z)) Z<|oY Z (fun G U=>(Qm Z Z)) Z<|oN<|nN<|Qx Z (fun h87=>?_) (fun h87=>?_)
    ·replace h87:=Qs h87
     refine Qa<|st (Ja Z (Y6 _)) Z<|QY Z Z hB2 siz101 Z Z (fun w19 bB cC=>?_)
     replace hB2:=bB;clear bB;replace hB6:=hB6.chg cC Z5;replace hLB:=hLB.chg cC Z5;replace bw:=Ji bw cC Qb;have zz19:=cC.size;clear cC
     refine sa Z Z<|Wn<|tN<|Qg<|bR<|tR<|tR<|bR<|tR ?_
     have hnlt:¬y.sum<x.sum:=by simpa using h87
     exact (KW Z Z hB2 uz101 Z siz101 Z (UB (Qvt h0 (by rw [hL]; exact Qto hy hy' hnlt)) bw)).1
    ·replace h87:=Qs h87
     refine Qf<|bN<|tN<|Qw ?_
     have hlt':y.sum<x.sum:=by simpa using h87
     have hso':upB (L.take (j+1))=true:=by
      have:=Qbx (i:=j-1) (by rw [show j-1+1=j by omega]; exact hso) hy hy' hlt'
      rwa [show j-1+2=j+1 by omega] at this
     refine st (Qn Z Z Qb) Z<|sm Z Z<|Wn<|tN ⟨_,_,?_,⟨j+1,_,Z,Z,by omega,hB2,hB6,hLB,hf,hso',bw⟩,⟨Z,Z,Z,Z,Z,tvA⟩⟩
     omega
   ·refine QS (fun _=>True) [0,1,2,3,4,5,6,7,8,9,10,11,12,13,14,15,16,17,18] [Y,Y,Y,Y,Y,Y,Y,Y,Y,Y,Y,Y,Y,Y,Y,Y,false,Y,Y] Qo Qo (trivial) ?_;obtain ⟨w20,hw_,hb⟩:=QN w16;rw [← hw_];clear hw_;have hS:True:=trivial;replace bw:=Ql bw hb;replace hB2:=hB2.bel hb;replace hB6:=hB6.bel hb;replace hLB:=hLB.bel hb;have zz20:=hb.size;clear hb
    refine oY Z (fun G U=>(Qd Z)) Z<|oY Z (fun G U=>(Jg Z Z)) Z<|oY Z (fun G U=>(Jf (c:=false) Z (decide_eq_false Qb))) Z<|JA Z Z Z Z hS Z<|JA Z Z Z Z hS Z<|JA Z Z Z Z hS Z<|JA Z Z Z Z hS Z<|JA Z Z Z Z hS Z<|JA Z Z Z Z hS Z<|JA Z Z Z Z hS Z<|JA Z Z Z Z hS Z<|JA Z Z Z Z hS Z<|JA Z Z Z Z hS Z<|JA Z Z Z Z hS Z<|JA Z Z Z Z hS Z<|JA Z Z Z Z hS Z<|JA Z Z Z Z hS Z<|JA Z Z Z Z hS Z<|oY Z (fun G U=>(Qq Z Z)) Z<|oN<|nN<|QX Z (Z)<|Qf<|bN<|tN<|Qw ?_
    have hso':upB (L.take (j+1))=true:=by
     obtain rfl:j=0:=by omega
     cases L with
     | nil=>rfl
     | cons c L=>rfl
    refine st (Qn Z Z Qb) Z<|sm Z Z<|Wn<|tN ⟨_,_,?_,⟨j+1,_,Z,Z,by omega,hB2,hB6,hLB,hf,hso',bw⟩,⟨Z,Z,Z,Z,Z,tvA⟩⟩
    omega
  ·replace h27:=Qs h27
   obtain rfl:n=j:=by omega
   rw [List.take_of_length_le Qb] at hso
   have hcl:cs.toList=L.flatMap Ent.cells:=by
    have h5:=hf.2;rw [List.take_of_length_le (by have:=hf.1; simp; omega),List.take_of_length_le Qb] at h5;exact h5
   have hRow:Row w7 59 35 (.slice (some ⟨gL,0,none⟩) n n) n (L.flatMap Ent.cells):=by rw [← hcl]; exact hLB.row_ hf.1 (by simp only [maxLen]; omega)
   have hE:EntsAt w7 (.slice (some ⟨gL,0,none⟩) n n) L:=by unfold EntsAt; rw [hLl]; exact hRow.reads
   refine QQ<|tE<|tE<|bH<|tN<|Qe<|Qa<|st (QE Z hB6 uz101 Z siz101) Z<|sc _ Tryz.func147 Z Qo Z Z (Q3 (Qpx _ L _ hE hL32 Qb) fun w21 hb=>?_)
   have pq:=hb;replace bw:=Ql bw hb;replace hB2:=hB2.bel hb;replace hB6:=hB6.bel hb;have zz21:=hb.size;clear hb
   refine sm Z Z<|Wn<|tN<|Qp ?_
   replace hE:=hE.bel pq;clear pq;refine JG (fun nw22_ lw22_ w22=>∃ k:Nat,nw22_=256-k∧lw22_=([(0,Qv s),(2,.pointer (some ⟨g2,0,none⟩)),(6,.pointer (some ⟨g6,0,none⟩)),(91,.agg (cntV L)),(92,.int .i64 k)]:Env)∧(k≤256)∧(H0 s L k)∧(Blk w22 g2 101 #[.slice none 0 0])∧(Blk w22 g6 101 #[.slice (some ⟨gL,0,none⟩) n n])∧(EntsAt w22 (.slice (some ⟨gL,0,none⟩) n n) L)∧(Below w.heap.size w w22)) _ ⟨_,⟨0,Z,Z,by omega,(fun b hb=>by omega),hB2,hB6,hE,bw⟩,⟨Z,Z,Z,Z,Z,tvA⟩⟩ ?_;clear hB2 hB6 hE bw;rintro nw22_ lw22_ w22 ⟨k,rfl,rfl,hk,hok,hB2,hB6,hE,bw⟩;have zz22:=bw.size;have hlt_hB2_w22:=hB2.lt;have hlt_hB6_w22:=hB6.lt
   refine Qa<|st (QJ Z Z) Z<|Wn<|tN<|Qe<|Qx Z (fun h93=>?_) (fun h93=>?_)
   ·replace h93:=Qs h93
    refine Qf<|tN<|Qe<|Qp<|Qa<|sm Z Z<|st (Qoq (j:=k) Z Z uz210 siz3 uz3 Z Z Qb (Qif L k Qb)) Z<|sa Z Z<|sa Z Z<|Wn<|tN<|Qa<|sm Z Z<|sm Z Z<|st (Kl Z Z Qb) Z<|st (Yx Z Z (show IntKind.i64.wrap (4+4*(k:Int))=((4+4*k:Nat):Int) by rw [U8 Qb]; omega)) Z ?_
    refine sc _ fz150 Z Qo Z Z (Q3 (ZN s (4+4*k) _ Qb Qb) fun w23 hb=>?_);replace bw:=Ql bw hb;replace hB2:=hB2.bel hb;replace hB6:=hB6.bel hb;replace hE:=hE.bel hb;have zz23:=hb.size;clear hb
    refine sm Z Z<|st (QC Z Z) Z<|Wn<|tN<|Qx Z (fun h102=>?_) (fun h102=>?_)
    ·replace h102:=Qs h102
     refine Qa<|st (Ja Z (Y6 _)) Z<|QY Z Z hB2 siz101 Z Z (fun w24 bB cC=>?_)
     replace hB2:=bB;clear bB;replace hB6:=hB6.chg cC Z5;replace bw:=Ji bw cC Qb;have zz24:=cC.size;clear cC
     refine sa Z Z<|Wn<|tN<|Qg<|bR<|tR<|tR<|bR<|tR ?_
     exact (KW Z Z hB2 uz101 Z siz101 Z (UB (dec_12 h0 (by rw [hL]; exact hso) (k:=k) Qb (by rw [hL]; omega)) bw)).1
    ·replace h102:=Qs h102
     have hok':H0 s L (k+1):=fun b hb=>by
      rcases Nat.lt_or_ge b k with q|q
      ·exact hok b q
      ·obtain rfl:b=k:=by omega
       omega
     refine Qf<|bN<|tN<|Qw<|st (Qn Z Z Qb) Z<|sm Z Z<|Wn<|tN ⟨_,_,?_,⟨k+1,Z,Z,by omega,hok',hB2,hB6,hE,bw⟩,⟨Z,Z,Z,Z,Z,tvA⟩⟩
     omega
   ·replace h93:=Qs h93
    obtain rfl:k=256:=by omega
    have hd0:=dec_0 h0 (by rw [hL]; exact hso) (by rw [hL]; exact hok)
    refine QQ<|tE<|tE<|bH<|tN<|Qa<|st (QE Z hB6 uz101 Z siz101) Z<|QY Z Z hB2 siz101 Z Z (fun w25 bB cC=>?_)
    replace hE:=hE.chgB cC (by show gL≠g2; omega);replace hB2:=bB;replace bw:=Ji bw cC Qb;clear bB cC
    refine sa Z Z<|Wn<|tN<|Qg<|(KW Z Z hB2 uz101 Z siz101 Z ?_).1
    rw [hd0,hL];exact ⟨_,Z,hE,fun k hk=>by simp [Value.ownBlock] at hk; omega,bw⟩
end
section
open Go.RowKit
theorem bs0 (w:World):(Instr.buildSlice 114 0 #[]).run Tryz.prog w=.ok (.slice (some ⟨w.heap.size,0,none⟩) 0 0) (w.alloc (.cells #[] 5)):=by kernel_rfl
theorem Qou (l:List UInt8) (w:World) (hl:l.length=32) :
  Calls Tryz.prog 130 #[.agg (l.map bv).toArray] w fun e w'=>e=.returned (Qv l)∧Below w.heap.size w w':=by
 refine Qj (args:=[.agg (l.map bv).toArray]) 18 Tryz.func130 Z Z Z<|Qt [(0,.agg (l.map bv).toArray)] ?_ ⟨Z,tvA⟩
 have bw:=Below.refl w.heap.size w
 refine Qa<|J1 Z Z (fun g1 w1 hB1 hg1 hb hl1=>?_)
 replace bw:=Ql bw hb;have zz1:=hb.size;clear hb
 refine sa Z Z<|Wn<|tN<|Qa<|sbs (ps:=[]) 1 Z (bs0 _) (by simp [maxLen]) Z Z (fun g5 w2 hR5 hg5 hb=>?_)
 replace hB1:=hB1.bel hb;replace bw:=Ql bw hb;have hz_5:=hb.size;clear hb
 refine sa Z Z<|Wn<|tN<|Qe<|Qa<|sa Z Z<|Wn<|tN<|Qp<|JG (fun nw3_ lw3_ w3=>∃ j:Nat,∃ v:Value,nw3_=32-j∧lw3_=([(1,.pointer (some ⟨g1,0,none⟩)),(3,v),(4,.int .i64 j)]:Env)∧(j≤32)∧(Row w3 5 1 v j ((l.take j).map bv))∧(∀ k,v.ownBlock=some k→w.heap.size≤k)∧(Blk w3 g1 57 (l.map bv).toArray)∧(Below w.heap.size w w3)) _ ⟨_,⟨0,.slice (some ⟨g5,0,none⟩) 0 0,Z,Z,by omega,hR5,(fun k hk=>by simp [Value.ownBlock] at hk; omega),hB1,bw⟩,⟨Z,Z,Z,tvA⟩⟩ ?_
 clear hB1 bw;rintro nw3_ lw3_ w3 ⟨j,v,rfl,rfl,hj,hRv,hOv,hB1,bw⟩;have zz3:=bw.size;have hlt_hB1_w3:=hB1.lt
 refine Qe<|Qa<|sm Z Z<|st (QJ Z Z) Z<|Wn<|tN<|Qx Z (fun h7=>?_) (fun h7=>?_)
 ·replace h7:=Qs h7
  obtain ⟨x,hx⟩:∃ x,l[j]?=some x:=⟨_,List.getElem?_eq_getElem Qb⟩
  refine Qf<|tN<|Qe<|Qp<|Qw<|sm Z Z<|sm Z Z<|st (Ki (j:=j) Z Z uz57 siz5 Z Qb) Z<|st (Z0 Z hB1 uz5 Z (v:=bv x) (by simp [hx])) Z ?_
  refine Zy Z uz114 inf5 Z Z QF QF Z (fun g14 w4 hR14 hg14 hb=>?_);replace bw:=Ql bw hb;replace hB1:=hB1.bel hb;replace hRv:=hRv.bel hb;have zz4:=hb.size;clear hb;have hl14:=hR14.blt QF;refine Z4 Z Z uz114 inf5 Z QF hRv (hR14.src uz114 (by intro z hz; simp [Value.cells,bv] at hz; subst hz; rfl)) (by simp only [maxLen]; omega) Qb Z (fun v' w5 hRv' hC hv'=>?_);replace hB1:=hB1.chg hC (hRv.ne_ hB1 QF);replace bw:=KM bw hC hOv;replace hOv:=JE hv' hOv Qb;clear hC
  refine sa Z Z<|Wn<|bN<|tN<|Qw<|sm Z Z<|st (Qn Z Z Qb) Z<|sa Z Z<|Wn<|tN ⟨_,_,?_,⟨j+1,v',Z,Z,by omega,by rw [QK hx,List.map_append]; exact hRv',hOv,hB1,bw⟩,⟨Z,Z,Z,tvA⟩⟩
  omega
 ·replace h7:=Qs h7
  obtain rfl:j=32:=by omega
  rw [List.take_of_length_le Qb] at hRv
  refine QQ<|tE<|tE<|bH<|tN<|Qa<|sm Z Z<|st (Zs (s:=l) Z uz114 uz5 uz9 hRv.reads) Z<|sa Z Z<|Wn<|tN<|Qg ?_
  exact (rT Z Z ⟨Z,bw⟩).1
end
section
open Go.RowKit
def Yq (s:List UInt8) (i:Nat):Nat→Nat
  | 4=>0
  | 3=>(s.getD (i+3) 0).toNat
  | 2=>256*(s.getD (i+3) 0).toNat+(s.getD (i+2) 0).toNat
  | 1=>256*(256*(s.getD (i+3) 0).toNat+(s.getD (i+2) 0).toNat)+(s.getD (i+1) 0).toNat
  | _=>num (s.drop i)
theorem Qka (s:List UInt8) (i k:Nat) (hk:k<4):256*Yq s i (k+1)+(s.getD (i+k) 0).toNat=Yq s i k:=by
 match k,hk with
 | 3,_=>simp [Yq]
 | 2,_=>simp [Yq]
 | 1,_=>simp [Yq]
 | 0,_=>simp only [Yq,numAt,HN,Nat.add_zero]; omega
theorem Qrs (s:List UInt8) (i k:Nat) (hk:0<k) (h4:k≤4):Yq s i k<16777216:=by
 have h1:=(s.getD (i+1) 0).toNat_lt;have h2:=(s.getD (i+2) 0).toNat_lt;have h3:=(s.getD (i+3) 0).toNat_lt
 match k,hk,h4 with
 | 4,_,_=>simp [Yq]
 | 3,_,_=>simp only [Yq]; omega
 | 2,_,_=>simp only [Yq]; omega
 | 1,_,_=>simp only [Yq]; omega
theorem Qeg (s:List UInt8) (i:Nat) (w:World) (hi:i+4≤s.length) (hs:s.length≤1099511627776) :
  Calls Tryz.prog 152 #[Qv s,.int .i64 i] w fun e w'=>e=.returned (.int .i64 (num (s.drop i):Nat))∧Below w.heap.size w w':=by
 refine Qj (args:=[Qv s,.int .i64 i]) 21 fz152 Z Z Z<|Qt [(0,Qv s),(1,.int .i64 i)] ?_ ⟨Z,Z,tvA⟩
 have bw:=Below.refl w.heap.size w
 refine Qa<|sa Z Z<|Wn<|tN<|Qa<|sa Z Z<|Wn<|tN<|Qe<|Qa<|sa Z Z<|Wn<|tN<|Qp<|JG (fun nw1_ lw1_ w1=>∃ k:Nat,nw1_=k+1∧lw1_=([(0,Qv s),(1,.int .i64 i),(5,.int .i64 (Yq s i k)),(6,.int .i64 ((k:Int)-1))]:Env)∧(k≤4)∧(Below w.heap.size w w1)) _ ⟨_,⟨4,Z,Z,by omega,bw⟩,⟨Z,Z,Z,Z,tvA⟩⟩ ?_
 clear bw;rintro nw1_ lw1_ w1 ⟨k,rfl,rfl,hk,bw⟩;have zz1:=bw.size
 refine Qe<|Qa<|sm Z Z<|st (Z1 Z Z) Z<|Wn<|tN<|Qx Z (fun h8=>?_) (fun h8=>?_)
 ·replace h8:=Qs h8;have hlt:=Qrs s i k Qb hk
  have hk1:k-1+1=k:=by omega
  have hb8:=(s.getD (i+(k-1)) 0).toNat_lt
  refine Qf<|tN<|Qe<|Qp<|Qw<|sm Z Z<|st (Kl Z Z Qb) Z<|sm Z Z<|sm Z Z<|sm Z Z<|st (Qn Z Z Qb) Z<|st (Ys (q:=i+(k-1)) Z Z uz9 Qb Qb) Z<|st (QM Z uz5 uz3 (U8 Qb)) Z<|st (Qn Z Z Qb) Z<|sa Z Z<|Wn<|bN<|tN<|Qw<|sm Z Z<|st (JU Z Z Qb) Z<|sa Z Z<|Wn<|tN ⟨_,_,?_,⟨k-1,Z,Z,by omega,bw⟩,⟨Z,Z,by rw [← Qka s i (k-1) Qb,hk1]; rfl,by show some (Value.int .i64 _)=some (Value.int .i64 _); congr 2; omega,tvA⟩⟩
  omega
 ·replace h8:=Qs h8
  refine QQ<|tE<|tE<|bH<|tN<|Qa<|sm Z Z<|sa Z Z<|Wn<|tN<|Qg ?_
  obtain rfl:k=0:=by omega
  exact (rT Z Z ⟨Z,bw⟩).1
end
section
open Go.RowKit
theorem KU {t:TypeId} {d:TypeDesc} {cs:Array Value} {off:Nat} {v:Value} {w:World} (hu:Tryz.prog.underlying t=some d) (hd:(match d with|.struct _|.array _ _=>false|_=>true)=true) (hv:cs.toList[off]?=some v):(part t cs off).run Tryz.prog w=.ok v w:=by
 have hc:cs[off]?=some v:=by rw [← hv]; simp
 cases d <;> simp at hd <;> simp [part,isAgg,run_underlying hu,hc]
theorem Zk {P : Program} {d : Nat} {xs ys : Array Value} {f : Field} {fs : List Field} {a b : Value} {r r' : Bool} {w : World} (hn : f.name ≠ "_") (ha : (part f.type xs f.offset).run P w = .ok a w) (hb : (part f.type ys f.offset).run P w = .ok b w) (he : (Op.equalIn d f.type a b).run P w = .ok r w) (hr : r = true → (Op.eqFields d xs ys fs).run P w = .ok r' w) :
  (Op.eqFields d xs ys (f::fs)).run P w=.ok (r && r') w:=by
 unfold Op.eqFields;rw [if_pos hn];simp only [Sem.run_bind,ha,hb,he,Result.andThen_ok,Sem.run_ite]
 cases r with
 | false=>simp
 | true=>simpa using hr rfl
theorem VW {P : Program} {d : Nat} {xs ys : Array Value} {f : Field} {a b : Value} {r : Bool} {w : World} (hn : f.name ≠ "_") (ha : (part f.type xs f.offset).run P w = .ok a w) (hb : (part f.type ys f.offset).run P w = .ok b w) (he : (Op.equalIn d f.type a b).run P w = .ok r w) :
  (Op.eqFields d xs ys [f]).run P w=.ok r w:=by
 have:=Zk (fs:=[]) hn ha hb he (fun _=>(by simp [Op.eqFields]:(Op.eqFields d xs ys []).run P w=.ok true w))
 simpa using this
theorem eqSumE (l m:List UInt8) (hl:l.length=32) (hm:m.length=32) (w:World):(Op.equalIn 9999 57 (.agg (l.map bv).toArray) (.agg (m.map bv).toArray)).run Tryz.prog w=.ok (l == m) w:=by
 obtain ⟨i0,hi,hz0,hz1,hz2⟩:=info_parts info_u8'
 have:=run_equalIn_array (P:=Tryz.prog) w 9998 (l.map bv).toArray (m.map bv).toArray uz57 hi
 rw [cells_u8,J9 9997 l m w (List.range 32) (fun i h=>by simp at h; omega),V4 l m 32 hl hm] at this;exact this
end
end Go.Proofs.YtgiccohjijhfkaaGreatDoor
