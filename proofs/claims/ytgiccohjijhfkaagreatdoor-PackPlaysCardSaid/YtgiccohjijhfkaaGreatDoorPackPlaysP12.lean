/- Part 12. -/
import Derived.Test.YtgiccohjijhfkaaGreatDoorPackPlaysP11
set_option maxRecDepth 100000
set_option maxHeartbeats 4000000
namespace Go.Proofs.YtgiccohjijhfkaaGreatDoor
section
open Go.RowKit Sha
theorem Qnr (s:List UInt8) (w:World):Calls Tryz.prog 136 #[Qv s] w fun e w'=>∃ gB,e=.returned (.func (.func 169) #[] #[.pointer (some ⟨gB,0,none⟩)])∧Blk w' gB 9 #[Qv s]∧w.heap.size≤gB∧Below w.heap.size w w':=by
 refine Qj (args:=[Qv s]) 4 Tryz.func136 Z Z Z<|Qt [(0,Qv s)] ?_ ⟨Z,tvA⟩
 have bw:=Below.refl w.heap.size w
 refine Qa<|sbox Z Z Z (fun g1 w1 hB1 hg1 hb hl1=>?_)
 replace bw:=Ql bw hb;have zz1:=hb.size;clear hb
 refine sa Z Z<|Wn<|tN<|Qa<|st (w':=w1) (v:=.func (.func 169) #[] #[.pointer (some ⟨g1,0,none⟩)]) (fun ρ hρ=>by unfold execOp; simp [hρ (.tmp 1) _ Z,Instr.makeFunc]) Z ?_
 refine sa Z Z<|Wn<|tN<|Qg ?_
 exact (rT Z Z ⟨g1,Z,hB1,hg1,bw⟩).1
theorem bscn (b:Nat) (w:World):(Instr.build 79 #[(1,.map (some b))]).run Tryz.prog w=.ok (.agg #[.slice none 0 0,.map (some b),.int .i64 0,.bool false]) w:=by kernel_rfl
theorem Qbd {P:Program} {N:Nat} {x y:Code} {Qr:Exit→Act→World→Prop} {l:Env} {a:Act} {w:World} (h:W P N [] (Yi (fun l w=>∀ a,Rep N [] l a→y.wp P Qr a w)) x l w) (ha:Rep N [] l a):(Code.seq x y).wp P Qr a w :=
 wp_seq (Code.wp_mono (fun e a w hq=>by
  obtain ⟨l',hr,hq⟩:=hq
  cases e with
  | normal=>exact hq a hr
  | _=>exact hq.elim) (h a ha))
structure ScI (w:World) (B gx gm g3 g6:Nat) (n:Int) (x:Scn) (W:World):Prop where
  scn:∃ v,ScnAt W gx gm v x∧(∀ k,v.ownBlock=some k→B≤k)
  b3:Blk W g3 3 #[.int .i64 n]
  b6:Blk W g6 75 #[.pointer (some ⟨gx,0,none⟩)]
  below:Below w.heap.size w W
  sz:B≤W.heap.size
structure ScO (w:World) (B gx gm g3 g6 gB:Nat):Prop where
  h3:w.heap.size≤g3
  hm:g3<gm
  hx:gm<gx
  h6:gx<g6
  hB:g6<gB
  hBB:gB<B
theorem ScI.grown {w W W':World} {B gx gm g3 g6 gB:Nat} {n:Int} {x:Scn} {row:Option Nat} (h:ScI w B gx gm g3 g6 n x W) (ho:ScO w B gx gm g3 g6 gB) (hg:W.grownBy W' row) (hr:∀ r,row=some r→B≤r∧∃ o:Obj,W.heap[r]?=some o∧o.isCells=false):ScI w B gx gm g3 g6 n x W':=by
 have h1:=ho.h3; have h2:=ho.hm; have h3:=ho.hx; have h4:=ho.h6; have h5:=ho.hB; have h6:=ho.hBB;obtain ⟨v,hs,hv⟩:=h.scn;have hc:=VY hg
 refine ⟨⟨v,hs.chg hc (fun e=>by have:=(hr _ e).1; omega) (fun e=>by have:=(hr _ e).1; omega) (fun k hk e=>by
  obtain ⟨o,ho,hn⟩:=(hr _ e).2
  have:=hs.row.onCells k o hk ho
  rw [hn] at this
  cases this),hv⟩,h.b3.chg hc (fun e=>by have:=(hr _ e).1; omega),h.b6.chg hc (fun e=>by have:=(hr _ e).1; omega),?_,?_⟩
 ·exact h.below.grown hg h.below.size (fun k e=>by have:=(hr _ e).1; omega)
 ·exact Nat.le_trans h.sz hg.size
theorem Qcy {W W':World} {B gx gm:Nat} {v:Value} {x:Scn} (hs:ScnAt W gx gm v x) (hc:Chg (fun k=>k=gx∨k=gm∨v.ownBlock=some k) W W') (h1:gx<B) (h2:gm<B):KeepsFrom B W W' :=
 ⟨hc.size,fun k o hB hk ho=>(hc.block k (Array.getElem?_eq_some_iff.1 hk).1 (by
  rintro (rfl|rfl|e)
  ·omega
  ·omega
  ·have:=hs.row.onCells k o e hk
   rw [ho] at this
   cases this)).trans hk⟩
def Qwy (B:Nat) (gx gm:Nat) (v:Value):Prop:=B≤gx∧B≤gm∧∀ k,v.ownBlock=some k→B≤k
def Qec (w:World) (r:Scn×Int) (e:Ending) (w':World):Prop :=
  ∃ p:Option Addr,e=.returned (.tuple #[.pointer p,.int .i64 r.2])∧(r.2≠0→p=none) ∧
  (r.2=0→∃ gx gm v,p=some ⟨gx,0,none⟩∧ScnAt w' gx gm v r.1∧Qwy w.heap.size gx gm v)∧Below w.heap.size w w'
theorem Que (s:List UInt8) (n:Int) (w:World) (hT:ShaTabs w) (hs:s.length≤16777216) :
  Calls Tryz.prog 99 #[Qv s,.int .i64 n] w (Qec w (Zp s n)):=by
 by_cases hn:QU n=true
 rotate_left
 ·have hp:Zp s n=(⟨[],0,false⟩,1):=by unfold Zp; rw [if_pos (by simpa using hn)]
  rw [hp]
  refine Qj (args:=[Qv s,.int .i64 n]) 52 Tryz.func99 Z Z Z<|Qt [(0,Qv s),(1,.int .i64 n)] ?_ ⟨Z,Z,tvA⟩
  have bw:=Below.refl w.heap.size w
  refine Qa<|sbox Z Z Z (fun g3 w1 hB3 hg3 hb hl3=>?_)
  replace bw:=Ql bw hb;have zz1:=hb.size;clear hb
  refine sa Z Z<|sa Z Z<|Wn<|tN<|Qe<|Qa<|st (Qi Z hB3 uz3 Z Z) Z<|sc _ fz71 Z Qo Z Z (Q3 (UR n _) fun w2 hb=>?_)
  replace bw:=Ql bw hb;replace hB3:=hB3.bel hb;have zz2:=hb.size;clear hb
  refine st (Jk Z) Z<|Wn<|tN<|QO Z (by simpa using hn) ?_
  refine Qa<|sa Z Z<|sa Z Z<|Wn<|tN<|Qg<|tR ?_
  exact (J6 Z Z Z ⟨none,Z,fun _=>rfl,fun h=>absurd h QF,bw⟩).1
 refine (callsIn_wide (n:=1)).1<|callsIn_of_wp_marks Tryz.func99 Z trivial (wpIn_wide.2 ?_) Z
 refine Qbd (N:=52) (l:=[(0,Qv s),(1,.int .i64 n)]) ?_ ⟨by kernel_rfl,Z,okL_val ⟨by kernel_rfl,by kernel_rfl,tvA⟩⟩;have bw:=Below.refl w.heap.size w
 refine Qw<|sbox Z Z Z (fun g3 w1 hB3 hg3 hb hl3=>?_)
 replace bw:=Ql bw hb;clear hb
 refine sa Z Z<|sa Z Z<|Wn (nN fun a ha=>(Qbd ?_ ha))
 refine Qa<|st (Qi Z hB3 uz3 Z Z) Z<|sc _ fz71 Z Qo Z Z (Q3 (UR n _) fun w2 hb=>?_)
 replace bw:=Ql bw hb;replace hB3:=hB3.bel hb;have hz2:=hb.size;clear hb ha a
 refine st (Jk Z) Z<|Wn<|tN<|QX Z (by rw [hn]; rfl) ?_
 refine Qf (nN fun a ha=>(Qbd ?_ ha))
 refine Qw<|smm (enc:=Y2) (encv:=Qod) Z (fun gm w3 hM hgm hb hlm=>?_)
 replace bw:=Ql bw hb;replace hB3:=hB3.bel hb;have hz3:=hb.size;clear hb ha a
 refine st (Ja Z (bscn gm _)) Z<|J1 Z Z (fun gx w4 hBx hgx hb hlx=>?_)
 replace bw:=Ql bw hb;replace hB3:=hB3.bel hb;replace hM:=hM.bel hb;have hz4:=hb.size;clear hb;refine sal1 inf75 Z Z (fun g6 w5 hB6 hg6 hb hl6=>?_);replace bw:=Ql bw hb;replace hB3:=hB3.bel hb;replace hM:=hM.bel hb;replace hBx:=hBx.bel hb;have hz5:=hb.size;clear hb;refine KL Z Z hB6 siz75 Z QF (fun w6 bB cC=>?_);replace hB6:=bB;replace hB3:=hB3.chg cC (by show ¬g3=g6; omega);replace hM:=hM.chg cC (by show ¬gm=g6; omega);replace hBx:=hBx.chg cC (by show ¬gx=g6; omega);replace bw:=Ji bw cC Qb;have hz6:=cC.size;clear bB cC;refine Wn (nN fun a ha=>(wp_seq (Qbd ?_ ha)))
 refine Qw<|sm Z Z<|sc _ Tryz.func136 Z Qo Z Z<|(Qnr s _).mono ?_
 rintro e_ w7 ⟨gB,rfl,hBs,hgB,hb⟩;refine cR ?_;replace bw:=Ql bw hb;replace hB3:=hB3.bel hb;replace hM:=hM.bel hb;replace hBx:=hBx.bel hb;replace hB6:=hB6.bel hb;have hz7:=hb.size;clear hb ha a;refine Wn (nN fun a ha=>?_);have hlB:=hBs.lt
 have hO:ScO w w7.heap.size gx gm g3 g6 gB:=⟨hg3,by omega,by omega,by omega,by omega,hlB⟩
 have hT7:=hT.belowAll bw;have hz0:=bw.size
 refine wp_block<|(wpIn_wide (n:=1)).1 ?_
 have hseq:=Qhe 0 w7 gB s hBs Qb;refine wpIn_rangeFunc_ownH Z (Nat.le_refl 1) (ha.knows (.tmp 15) _ Z) trivial (fun args w=>by kernel_rfl) hseq (fun h k=>Eq.trans k h)
  (fun W l o o' hl h1 _ _=>by show (W.heap.setIfInBounds l o')[gB]?=_; rw [Array.getElem?_setIfInBounds,if_neg (by have:=hO.hBB; omega)]) X4 (fun _=>rfl)
  (fun pre W=>∃ x,goF n sc0 (pre.map (·.1))=some x∧ScI w w7.heap.size gx gm g3 g6 n x W)
  (fun c pre W=>c=.exit 0∧∃ q p x,pre.map (·.1)=q++[p]∧goF n sc0 q=some x∧ZR n x p=none∧ScI w w7.heap.size gx gm g3 g6 n x W)
  (fun pre W W' row h hg hr=>by obtain ⟨x,h1,h2⟩:=h; exact ⟨x,h1,h2.grown hO hg hr⟩)
  (fun c pre W W' row h hg hr=>by obtain ⟨hc,q,p,x,h1,h2,h3,h4⟩:=h; exact ⟨hc,q,p,x,h1,h2,h3,h4.grown hO hg hr⟩)
  ⟨sc0,rfl,⟨_,⟨hBx,Row.nil _ _ _,⟨[],hM,rfl⟩,by simp [Yt,sc0]⟩,fun k hk=>by simp [Value.ownBlock] at hk⟩,hB3,hB6,bw,Nat.le_refl _⟩
  (fun x a' W=>∃ g7,Rep 52 [] [(7,.pointer (some ⟨g7,0,none⟩)),(3,.pointer (some ⟨g3,0,none⟩)),(6,.pointer (some ⟨g6,0,none⟩))] a'∧Blk W g7 200 #[.int .u8 x.1.kind.toNat,Qv x.1.body,.int .i64 x.1.pos,.int .i64 x.1.next]∧w7.heap.size≤g7)
  (fun x a' _ W W' row h hg hr=>by obtain ⟨g7,h1,h2,h3⟩:=h; exact ⟨g7,h1,h2.grown hg (fun r e=>(hr r e).2),h3⟩) ?_ ?_ ?_ ?_
 ·-- the loop's variable is laid
  intro lp pre x W K hI hK
  have ha':Rep 52 [] [(16,Qai x.1),(3,.pointer (some ⟨g3,0,none⟩)),(6,.pointer (some ⟨g6,0,none⟩))] { tmps:=(#[16].zip #[Qai x.1]).foldl (fun t (p,v)=>t.setIfInBounds p v) a.tmps,defers:=[] }:=by
   have:=(ha.sub (r:=[(3,.pointer (some ⟨g3,0,none⟩)),(6,.pointer (some ⟨g6,0,none⟩))]) ⟨rfl,rfl,tvA⟩).put (d:=16) rfl (Qai x.1)
   have e:({ tmps:=(#[16].zip #[Qai x.1]).foldl (fun t (p,v)=>t.setIfInBounds p v) a.tmps,defers:=[] }:Act)=a.put (some 16) (Qai x.1):=by
    have hd:=ha.defers
    cases a
    simp at hd;subst hd;simp [Act.put]
   rw [e];exact this
  obtain ⟨x0,hx0,hI0⟩:=hI;refine outI (Q:=fun e l W'=>e=.normal∧∃ g7,l=[(7,.pointer (some ⟨g7,0,none⟩)),(3,.pointer (some ⟨g3,0,none⟩)),(6,.pointer (some ⟨g6,0,none⟩))]∧Blk W' g7 200 #[.int .u8 x.1.kind.toNat,Qv x.1.body,.int .i64 x.1.pos,.int .i64 x.1.next]∧W.heap.size≤g7∧Below W.heap.size W W') ?_ ha' ?_
  ·refine Qwo Z (fun l w h=>by cases h.1) ?_;refine Jm inf200 Z (fun g7 wa hB7 hg7 hb hl7=>(QY Z Z hB7 siz200 Z Z (fun wb bB hc=>(WL_sub [(7,.pointer (some ⟨g7,0,none⟩)),(3,.pointer (some ⟨g3,0,none⟩)),(6,.pointer (some ⟨g6,0,none⟩))] ?_ ⟨Z,Z,Z,tvA⟩))));exact Wn ⟨Z,g7,Z,bB,hg7,Ji hb hc hg7⟩
  ·rintro e l a' W' hr ⟨rfl,g7,rfl,hB7,hg7,hb⟩;have hch:Chg (fun _=>False) W W':=Chg.of_below hb _
   have hoc:Qbo (fun _=>False) W:=fun k o h _=>h.elim
   have hz:=hI0.b6.lt;obtain ⟨v,hs1,hv1⟩:=hI0.scn;have hzz:=hI0.sz;have hzb:=hb.size;exact hK a' W' (Qgz hch hoc _) (hb.block gB (by have:=hO.hBB; omega)) ⟨x0,hx0,⟨v,hs1.bel hb,hv1⟩,hI0.b3.bel hb,hI0.b6.bel hb,Ql hI0.below hb,by omega⟩ ⟨g7,hr,hB7,by omega⟩
 ·-- the body
  intro lp pre x a' W _ _ hI ⟨g7,hr,h7,hg7⟩ hlen;obtain ⟨x0,hx0,hI0⟩:=hI;obtain ⟨v,hSn,hv⟩:=hI0.scn;have hzW:=hI0.sz;have h3:=hI0.b3;have h6:=hI0.b6;have hTW:=hT.belowAll hI0.below
  have hN:Qgd (fun k=>k=gx∨k=gm∨v.ownBlock=some k):=by
   have hnt:=YW hT (Nat.le_refl _);have o1:=hO.h3; have o2:=hO.hm; have o3:=hO.hx; have o4:=hO.h6; have o5:=hO.hB; have o6:=hO.hBB;refine ⟨?_,?_⟩
   ·rintro (e|e|e)
    ·exact hnt.1 Qb
    ·exact hnt.1 Qb
    ·exact hnt.1 (by have:=hv _ e; omega)
   ·rintro (e|e|e)
    ·exact hnt.2 Qb
    ·exact hnt.2 Qb
    ·exact hnt.2 (by have:=hv _ e; omega)
  have hl0:x0.l.length≤20000000:=by
   have h1:=Qpv hx0;simp only [List.length_map] at h1
   have:sc0.l.length=0:=rfl
   omega
  have o1:=hO.h3; have o2:=hO.hm; have o3:=hO.hx; have o4:=hO.h6; have o5:=hO.hB; have o6:=hO.hBB;have hvl:=X7 hSn.row
  have hn3:¬(g3=gx∨g3=gm∨v.ownBlock=some g3):=by rintro (e|e|e); omega; omega; have:=hv _ e; omega
  have hn6:¬(g6=gx∨g6=gm∨v.ownBlock=some g6):=by rintro (e|e|e); omega; omega; have:=hv _ e; omega
  have hnB:¬(gB=gx∨gB=gm∨v.ownBlock=some gB):=by rintro (e|e|e); omega; omega; have:=hv _ e; omega
  have hn7:¬v.ownBlock=some g7:=fun e=>hSn.row.ne2 h7 QF _ e rfl
  have hmap:(pre++[x]).map (·.1)=pre.map (·.1)++[x.1]:=by simp
  refine WI_out (n:=1-1-1) (l:=[(7,.pointer (some ⟨g7,0,none⟩)),(3,.pointer (some ⟨g3,0,none⟩)),(6,.pointer (some ⟨g6,0,none⟩))])
   (Q:=fun e _ W'=>∃ y,Chg (fun k=>k=gx∨k=gm∨v.ownBlock=some k) W W'∧Blk W' g3 3 #[.int .i64 n]∧Blk W' g6 75 #[.pointer (some ⟨gx,0,none⟩)] ∧
    (∃ v',ScnAt W' gx gm v' y∧(∀ k,v'.ownBlock=some k→w7.heap.size≤k))∧((e=.normal∧ZR n x0 x.1=some y)∨(e=.exit 0∧ZR n x0 x.1=none∧y=x0))) ?_ hr ?_
  ·have hqo_:∀ (l:Env) (w:World),¬(∃ y,Chg (fun k=>k=gx∨k=gm∨v.ownBlock=some k) W w∧Blk w g3 3 #[.int .i64 n]∧Blk w g6 75 #[.pointer (some ⟨gx,0,none⟩)] ∧
    (∃ v',ScnAt w gx gm v' y∧(∀ k,v'.ownBlock=some k→w7.heap.size≤k))∧((Exit.outgrown=.normal∧ZR n x0 x.1=some y)∨(Exit.outgrown=.exit 0∧ZR n x0 x.1=none∧y=x0))):=by
    rintro l w ⟨y,_,_,_,_,(⟨h,_⟩|⟨h,_⟩)⟩ <;> cases h
   have hcw:=Chg.refl (fun k=>k=gx∨k=gm∨v.ownBlock=some k) W
   refine Qwr<|Vz<|Vz<|Qos Z (fun l_ w_ h_=>hqo_ l_ w_ h_)<|st (Qk Qpy Z) Z<|st (Qi Z h7 uz3 Z Z) Z<|st (QL Z Z) Z<|Wn<|tN<|Qqk Z (fun h19=>?_) (fun h19=>?_)
   ·replace h19:=Qs h19;refine Vz ?_
    by_cases hsp_:x.1.kind=1
    ·refine Vz<|Qwq (fun G=>Blk G g3 3 #[.int .i64 n]∧Blk G g7 200 #[.int .u8 x.1.kind.toNat,Qv x.1.body,.int .i64 x.1.pos,.int .i64 x.1.next]) [0,1,2,3,4,5,6,7,8,9] [Y,Y,Y,Y,Y,Y,Y,false,Y,Y] Qo Qo Z (⟨h3.drew,h7.drew⟩) ?_
     obtain ⟨w1,hw_⟩:∃ w1:World,w1=World.drew W:=⟨_,rfl⟩
     rw [← hw_]
     have hb:Below W.heap.size W w1:=by rw [hw_]; exact JC X4
     clear hw_;have hS:=hb;replace hcw:=hcw.then_below hb;replace h3:=h3.bel hb;replace h6:=h6.bel hb;replace h7:=h7.bel hb;replace hSn:=hSn.bel hb;have zz1:=hb.size;clear hb
     refine oY Z (fun G U=>(Qk Qhv Z)) Z<|oY Z (fun G U=>(Qi Z U.2 uz5 Z Z)) Z<|oY Z (fun G U=>(QC Z Z)) Z<|oY Z (fun G U=>(Jf (c:=false) Z (by rw [hsp_]; rfl))) Z ?_
     refine Q4 Z Z Z Z (fun G U=>(Qk Qhu Z)) Z<|Q4 Z Z Z Z (fun G U=>(Qi Z U.2 uz9 Z Z)) Z<|Q4 Z Z Z Z (fun G U=>(Qi Z U.1 uz3 Z Z)) Z<|oL Z (fun Q_ hQ_ hP_=>(gY Z Z Z (sc _ fz28 Z Qo Z Z (Q3 (XR n _) fun w2 hb=>?_))))
     replace hcw:=hcw.then_below hb;replace h3:=h3.bel hb;replace h6:=h6.bel hb;replace h7:=h7.bel hb;replace hSn:=hSn.bel hb;have zz2:=hb.size;clear hb
     refine Wn<|hQ_ _ _ (⟨h3,h7⟩) ?_
     clear hQ_ hP_ Q_
     refine Q4 Z Z Z Z (fun G U=>(Y7 Z Z)) Z<|oY Z (fun G U=>(Qq Z Z)) Z<|oN<|nN<|Qqk Z (fun h29=>?_) (fun h29=>?_)
     ·replace h29:=Qs h29
      refine Ha<|tE<|tE<|bM Z ?_
      exact ⟨x0,hcw,h3,h6,⟨v,hSn,hv⟩,.inr ⟨Z,by unfold ZR; rw [if_pos Qb,if_neg (fun e=>h29 e.2)],Z⟩⟩
     ·replace h29:=Qs h29
      refine Qit<|tN<|Vz<|Qos Z (fun l_ w_ h_=>hqo_ l_ w_ h_)<|st (Qi Z h6 uz75 Z Z) Z<|st (Qk Qht Z) Z<|st (Qi Z h7 uz3 Z Z) Z<|st (Qc Z) Z<|st (Qk H3 Z) Z<|KL Z Z hSn.blk siz3 Z Q0 (fun w3 bB cC=>?_)
      have hSn2:ScnAt w3 gx gm v { x0 with good:=x.1.next }:=⟨bB,hSn.row.chg cC (fun k hk e=>by have:=hv k hk; have e:k=gx:=e; omega),by obtain ⟨m,a,b⟩:=hSn.map; exact ⟨m,a.chg cC (by show ¬gm=gx; omega),b⟩,hSn.s32⟩
      replace h3:=h3.chg cC (by show ¬g3=gx; omega);replace h6:=h6.chg cC (by show ¬g6=gx; omega);replace hcw:=hcw.next cC (fun i hi=>.inl (.inl hi));clear bB cC hSn
      refine Wn<|tN<|Ha<|tE<|bH ?_
      exact ⟨_,hcw,h3,h6,⟨v,hSn2,hv⟩,.inl ⟨Z,by unfold ZR; rw [if_pos Qb,if_pos ⟨hsp_,Decidable.of_not_not h29⟩]⟩⟩
    ·refine Vz<|Qwq (fun G=>Blk G g3 3 #[.int .i64 n]∧Blk G g7 200 #[.int .u8 x.1.kind.toNat,Qv x.1.body,.int .i64 x.1.pos,.int .i64 x.1.next]) [0,1,2,3,4,5,6,7,8,9] [Y,Y,Y,Y,Y,Y,Y,false,Y,Y] Qo Qo Z (⟨h3.drew,h7.drew⟩) ?_
     obtain ⟨w4,hw_⟩:∃ w4:World,w4=World.drew W:=⟨_,rfl⟩
     rw [← hw_]
     have hb:Below W.heap.size W w4:=by rw [hw_]; exact JC X4
     clear hw_;have hS:=hb;replace hcw:=hcw.then_below hb;replace h3:=h3.bel hb;replace h6:=h6.bel hb;replace h7:=h7.bel hb;replace hSn:=hSn.bel hb;have zz4:=hb.size;clear hb
     refine oY Z (fun G U=>(Qk Qhv Z)) Z<|oY Z (fun G U=>(Qi Z U.2 uz5 Z Z)) Z<|oY Z (fun G U=>(QC Z Z)) Z<|oY Z (fun G U=>(Jf (c:=true) Z (decide_eq_true (by intro e; exact hsp_ (UInt8.toNat.inj (by show x.1.kind.toNat=1; omega)))))) Z ?_
     refine JA Z Z Z Z (⟨h3,h7⟩) Z<|JA Z Z Z Z (⟨h3,h7⟩) Z<|JA Z Z Z Z (⟨h3,h7⟩) Z<|JA Z Z Z Z (⟨h3,h7⟩) Z<|JA Z Z Z Z (⟨h3,h7⟩) Z<|oY Z (fun G U=>(Qm Z Z)) Z<|oN<|nN<|Qwp Z (Z)<|Ha<|tE<|tE<|bM Z ?_
     exact ⟨x0,hcw,h3,h6,⟨v,hSn,hv⟩,.inr ⟨Z,by unfold ZR; rw [if_pos Qb,if_neg (fun e=>hsp_ e.1)],Z⟩⟩
   ·replace h19:=Qs h19
    refine Qit<|tN<|Vz<|Qos Z (fun l_ w_ h_=>hqo_ l_ w_ h_)<|st (Qi Z h6 uz75 Z Z) Z<|st (Qc Z) Z<|st (Qk Qnw Z) Z<|st (Qi Z hSn.blk uz4 Z Z) Z<|sb Z Z (fun h39=>?_) (fun h39=>?_)
    ·replace h39:=Qs h39
     refine gN Z Z Z Z<|gN Z Z Z Z<|gN Z Z Z Z<|gN Z Z Z Z<|gN Z Z Z Z<|st (Qm Z Z) Z<|Wn<|tN<|Qwp Z (Z)<|Ha<|bM Z ?_
     exact ⟨x0,hcw,h3,h6,⟨v,hSn,hv⟩,.inr ⟨Z,by unfold ZR; rw [if_neg Qb,if_pos h39],Z⟩⟩
    ·replace h39:=Qs h39
     refine gY Z Z Z<|st (Qi Z h6 uz75 Z Z) Z<|gY Z Z Z<|st (QE Z h7 Tryz.underlying200 Z siz200) Z<|gY Z Z Z<|st (Qi Z h3 uz3 Z Z) Z<|gY Z Z Z<|sc _ Tryz.func137 Z Qo Z Z<|(Qrl gx gm v x0 x.1 n _ hSn (hTW.chg hcw hN) hN hl0 x.2).mono ?_
     rintro e_ w5 ⟨v',rfl,hS',hv',hC1⟩;refine cR ?_;replace h3:=h3.chg hC1 hn3;replace h6:=h6.chg hC1 hn6;replace hcw:=hcw.next hC1 (fun i hi=>.inl hi);have hzc:=hC1.size;clear hC1
     refine gY Z Z Z<|st (Jk Z) Z<|st (Qq Z Z) Z<|Wn<|tN<|Qqk Z (fun h45=>?_) (fun h45=>?_)
     ·replace h45:=Qs h45
      refine Ha<|bM Z ?_
      have hno:ZA n x0 x.1=none:=by cases h:ZA n x0 x.1 with|none=>rfl|some y=>rw [h] at h45; simp at h45
      rw [hno] at hS';exact ⟨x0,hcw,h3,h6,⟨v',hS',fun k hk=>(hv' k hk).elim (hv k) (fun e=>by omega)⟩,.inr ⟨Z,by unfold ZR; rw [if_neg Qb,if_neg (by rw [h39]; decide)]; exact hno,Z⟩⟩
     ·replace h45:=Qs h45
      refine Qit<|bN ?_
      obtain ⟨y,hy⟩:∃ y,ZA n x0 x.1=some y:=by cases h:ZA n x0 x.1 with|none=>rw [h] at h45; simp at h45|some y=>exact ⟨y,rfl⟩
      rw [hy] at hS';exact ⟨y,hcw,h3,h6,⟨v',hS',fun k hk=>(hv' k hk).elim (hv k) (fun e=>by omega)⟩,.inl ⟨Z,by unfold ZR; rw [if_neg Qb,if_neg (by rw [h39]; decide)]; exact hy⟩⟩
  ·rintro e l a2 W' _ ⟨y,hC,h3',h6',hS',hcase⟩;have hkf:=Qcy hSn hC (show gx<w7.heap.size by omega) Qb;have hkb:KeepB gB W W':=hC.block gB Qb hnB;have hbW:Below w.heap.size w W':=bchg hI0.below hC (by rintro k (e|e|e); omega; omega; have:=hv _ e; omega);have hzC:=hC.size
   rcases hcase with ⟨rfl,hst⟩|⟨rfl,hst,rfl⟩
   ·exact ⟨hkf,hkb,y,by rw [hmap,Qkx hx0]; exact hst,hS',h3',h6',hbW,by omega⟩
   ·exact ⟨hkf,Z,pre.map (·.1),x.1,y,hmap,hx0,hst,hS',h3',h6',hbW,by omega⟩
 ·-- behind the loop
  intro D xs W hDle hxs hI hK;obtain ⟨x,hx,hI⟩:=hI
  have hfold:UE n sc0 (Uj s)=x:=by rw [← hxs]; exact Qky hx
  show Code.wp _ _ _ _ _
  have haD:Rep 52 [{ target:=.collected D,args:=#[] }] [(6,.pointer (some ⟨g6,0,none⟩))] { a with defers:={ target:=.collected D,args:=#[] }::a.defers }:=by
   refine ⟨ha.size,by rw [ha.defers],fun t u hu=>ha.val t u ?_⟩;unfold lk at hu
   cases ht:Nat.beq t 6 with
   | true =>
    have e:t=6:=Nat.eq_of_beq_eq_true ht;subst e;exact hu
   | false=>rw [ht] at hu; cases hu
  refine W_out (N:=52) (ds:=[{ target:=.collected D,args:=#[] }]) (l:=[(6,.pointer (some ⟨g6,0,none⟩))]) (Q:=fun e l W'=>W'=W∧e=.ret∧JI Tryz.prog Tryz.f99 (Qec w (Zp s n)) .ret l (W'.putObj D (.deferred none))) ?_ haD.size haD.defers ⟨haD.val 6 _ Z,tvA⟩ ?_
  ·have h6:=hI.b6;have hgr:W.grownBy (W.putObj D (.deferred none)) (some D):=grownBy_putObj' W D _;have hI2:=hI.grown hO hgr (fun r e=>by cases e; exact ⟨hDle,_,hK,rfl⟩);obtain ⟨v,hSn,hv⟩:=hI.scn;obtain ⟨v2,hSn2,hv2⟩:=hI2.scn;have o1:=hO.h3; have o2:=hO.hm; have o3:=hO.hx; have o4:=hO.h6; have o5:=hO.hB; have o6:=hO.hBB
   refine Qe<|Qa<|st (Qi Z h6 uz75 Z Z) Z<|st (Qc Z) Z<|st (Qk H3 Z) Z<|st (Qi Z hSn.blk uz3 Z Z) Z<|st (QL Z Z) Z<|Wn<|tN<|Qx Z (fun h50=>?_) (fun h50=>?_)
   ·replace h50:=Qs h50
    refine Qa<|sa Z Z<|sa Z Z<|Wn<|tN<|Qg<|tR<|⟨Z,Z,(J6 Z Z Z ?_).1⟩
    rw [UO s hn,hfold,if_pos Qb];exact ⟨none,Z,fun _=>rfl,fun h=>absurd h QF,hI2.below⟩
   ·replace h50:=Qs h50
    refine Qf<|tN<|Qa<|st (Qi Z h6 uz75 Z Z) Z<|sa Z Z<|sa Z Z<|Wn<|tN<|Qg<|⟨Z,Z,(J6 Z Z Z ?_).1⟩
    rw [UO s hn,hfold,if_neg Qb];exact ⟨some ⟨gx,0,none⟩,Z,fun h=>absurd Z h,fun _=>⟨gx,gm,v2,Z,hSn2,by omega,by omega,fun k hk=>by have:=hv2 k hk; omega⟩,hI2.below⟩
  ·rintro e l a3 W' hr3 ⟨rfl,rfl,hp⟩;exact retM hr3 hK hp
 ·-- a round that was left
  intro D c pre W hDle hpre hIx hK;obtain ⟨rfl,q,p,x,hq,hx,hst,hI⟩:=hIx
  have hfold:UE n sc0 (Uj s)=x:=by
   obtain ⟨t,ht⟩:=hpre;rw [← ht,hq,List.append_assoc];exact Qdf hx hst
  refine wpIn_exit ?_
  show Code.wp _ _ _ _ _
  have haD:Rep 52 [{ target:=.collected D,args:=#[] }] [(6,.pointer (some ⟨g6,0,none⟩))] { a with defers:={ target:=.collected D,args:=#[] }::a.defers }:=by
   refine ⟨ha.size,by rw [ha.defers],fun t u hu=>ha.val t u ?_⟩;unfold lk at hu
   cases ht:Nat.beq t 6 with
   | true =>
    have e:t=6:=Nat.eq_of_beq_eq_true ht;subst e;exact hu
   | false=>rw [ht] at hu; cases hu
  refine W_out (N:=52) (ds:=[{ target:=.collected D,args:=#[] }]) (l:=[(6,.pointer (some ⟨g6,0,none⟩))]) (Q:=fun e l W'=>W'=W∧e=.ret∧JI Tryz.prog Tryz.f99 (Qec w (Zp s n)) .ret l (W'.putObj D (.deferred none))) ?_ haD.size haD.defers ⟨haD.val 6 _ Z,tvA⟩ ?_
  ·have h6:=hI.b6;have hgr:W.grownBy (W.putObj D (.deferred none)) (some D):=grownBy_putObj' W D _;have hI2:=hI.grown hO hgr (fun r e=>by cases e; exact ⟨hDle,_,hK,rfl⟩);obtain ⟨v,hSn,hv⟩:=hI.scn;obtain ⟨v2,hSn2,hv2⟩:=hI2.scn;have o1:=hO.h3; have o2:=hO.hm; have o3:=hO.hx; have o4:=hO.h6; have o5:=hO.hB; have o6:=hO.hBB
   refine Qe<|Qa<|st (Qi Z h6 uz75 Z Z) Z<|st (Qc Z) Z<|st (Qk H3 Z) Z<|st (Qi Z hSn.blk uz3 Z Z) Z<|st (QL Z Z) Z<|Wn<|tN<|Qx Z (fun h50=>?_) (fun h50=>?_)
   ·replace h50:=Qs h50
    refine Qa<|sa Z Z<|sa Z Z<|Wn<|tN<|Qg<|tR<|⟨Z,Z,(J6 Z Z Z ?_).1⟩
    rw [UO s hn,hfold,if_pos Qb];exact ⟨none,Z,fun _=>rfl,fun h=>absurd h QF,hI2.below⟩
   ·replace h50:=Qs h50
    refine Qf<|tN<|Qa<|st (Qi Z h6 uz75 Z Z) Z<|sa Z Z<|sa Z Z<|Wn<|tN<|Qg<|⟨Z,Z,(J6 Z Z Z ?_).1⟩
    rw [UO s hn,hfold,if_neg Qb];exact ⟨some ⟨gx,0,none⟩,Z,fun h=>absurd Z h,fun _=>⟨gx,gm,v2,Z,hSn2,by omega,by omega,fun k hk=>by have:=hv2 k hk; omega⟩,hI2.below⟩
  ·rintro e l a3 W' hr3 ⟨rfl,rfl,hp⟩;exact retM hr3 hK hp
end
section
open Go.RowKit Sha
structure Wri where
  n:Int
  l:List Ent
  closed:Bool
def JX (n:Int):List UInt8:=KN 1 (JR n)
def ZI (d:List UInt8):List UInt8:=KN 2 (sha d++d)
def Zw (l:List Ent):List UInt8:=KN 3 (JR l.length)
def Q2 (D:DiskD) (n:Int):Int×DiskD :=
  if QU n=false then (1,D)
  else if (QV D (Qz n)).1≠0 then QV D (Qz n)
  else if (QI (QV D (Qz n)).2 (Qz n) (JX n)).1≠0 then ((QI (QV D (Qz n)).2 (Qz n) (JX n)).1,(Q7 (QI (QV D (Qz n)).2 (Qz n) (JX n)).2 (Qz n)).2)
  else QI (QV D (Qz n)).2 (Qz n) (JX n)
def QD (D:DiskD) (x:Wri) (d:List UInt8):(Ent×Int)×Wri×DiskD :=
  if x.closed=true∨d=[] then ((eZ,1),x,D)
  else if 1024<d.length then ((eZ,31),x,D)
  else match Zf x.l (sha d) with
    | some e=>((e,16),x,D)
    | none =>
      if (ZS D (Qz x.n)).2≠0 then ((eZ,(ZS D (Qz x.n)).2),x,D)
      else if (QI D (Qz x.n) (ZI d)).1≠0 then ((eZ,(QI D (Qz x.n) (ZI d)).1),x,(QI D (Qz x.n) (ZI d)).2)
      else ((⟨sha d,x.n,(ZS D (Qz x.n)).1,d.length⟩,0),{ x with l:=x.l++[⟨sha d,x.n,(ZS D (Qz x.n)).1,d.length⟩] },(QI D (Qz x.n) (ZI d)).2)
def Jc (D:DiskD) (x:Wri):(List Ent×Int)×Wri×DiskD :=
  if x.closed=true then (([],1),x,D)
  else if (QI D (Qz x.n) (Zw x.l)).1≠0 then (([],(QI D (Qz x.n) (Zw x.l)).1),x,(QI D (Qz x.n) (Zw x.l)).2)
  else if (Ku (QI D (Qz x.n) (Zw x.l)).2 (Qz x.n)).1≠0 then (([],(Ku (QI D (Qz x.n) (Zw x.l)).2 (Qz x.n)).1),x,(Ku (QI D (Qz x.n) (Zw x.l)).2 (Qz x.n)).2)
  else (((Jb x.l).1,0),{ x with closed:=true },(Ku (QI D (Qz x.n) (Zw x.l)).2 (Qz x.n)).2)
def Jo (D:DiskD) (k:Key):List UInt8×Int:=match mget D.files k with
  | none=>([],15)
  | some f=>(f.now,0)
def QB (D:DiskD) (n:Int):Scn×Int :=
  if QU n=false then (sc0,1)
  else if (Jo D (Qz n)).2≠0 then (sc0,(Jo D (Qz n)).2)
  else Zp (Jo D (Qz n)).1 n
def Xv (n:Nat):Nat:=(KN 2 (List.replicate (32+n) 0)).length
def gotM (len:Int) (a s:List UInt8):List UInt8×Int :=
  if (QG s).2.2.2≠0∨(QG s).1≠2 then ([],35)
  else if Ke (QG s).2.1=true∧(QG s).2.1.take 32=a∧((QG s).2.1.length:Int)=32+len then ((QG s).2.1.drop 32,0) else ([],35)
def Yw (D:DiskD) (n:Int) (l:List Ent) (a:List UInt8):List UInt8×Int:=match Zf l a with
  | none=>([],15)
  | some e=>match mget D.files (Qz n) with
    | none=>([],15)
    | some f=>if (f.now.length:Int)<e.pos then ([],35) else gotM e.len a ((f.now.drop e.pos.toNat).take (Xv e.len.toNat))
def Q1 (n:Int):List UInt8:=Zz n++newB
def JK (D:DiskD) (n:Int) (l:List Ent):Int×DiskD :=
  if QU n=false then (1,D)
  else if (QV (Q7 D (Q1 n)).2 (Q1 n)).1≠0 then QV (Q7 D (Q1 n)).2 (Q1 n)
  else if (QI (QV (Q7 D (Q1 n)).2 (Q1 n)).2 (Q1 n) (ZH l)).1≠0 then
    ((QI (QV (Q7 D (Q1 n)).2 (Q1 n)).2 (Q1 n) (ZH l)).1,(Q7 (QI (QV (Q7 D (Q1 n)).2 (Q1 n)).2 (Q1 n) (ZH l)).2 (Q1 n)).2)
  else Kx (Ku (QI (QV (Q7 D (Q1 n)).2 (Q1 n)).2 (Q1 n) (ZH l)).2 (Q1 n)).2 (Q1 n) (Zz n)
def Us (D:DiskD) (n:Int):List Ent×Int :=
  if QU n=false then ([],1)
  else if (Jo D (Zz n)).2≠0 then ([],(Jo D (Zz n)).2)
  else K3 (Jo D (Zz n)).1
def Q8 (D:DiskD) (n:Int):(List Ent×Int)×DiskD :=
  if (QB D n).2≠0 then (([],(QB D n).2),D)
  else if (JK D n (Jb (QB D n).1.l).1).1≠0 then (([],(JK D n (Jb (QB D n).1.l).1).1),(JK D n (Jb (QB D n).1.l).1).2)
  else (((Jb (QB D n).1.l).1,0),(JK D n (Jb (QB D n).1.l).1).2)
end
section
open Go.RowKit Sha
theorem Qog (n:Nat):JO (d10 n)=true:=by
 have h:∀ m:Fin 10,JO (UInt8.ofNat (48+m.val))=true:=by decide
 exact h ⟨n%10,Nat.mod_lt _ Qb⟩
theorem dig_letters:∀ (k n:Nat),(dig k n).all JO=true
 | 0,_=>rfl
 | k+1,n=>by
  rw [dig,List.all_append,dig_letters k];simp [Qog]
theorem Vh (n:Nat):(six n).length=6:=dig_length 6 n
theorem HO {kind:List UInt8} {n:Int} (hn:QU n=true):KB kind n=kind++six n.toNat:=if_pos hn
theorem Qco (kind:List UInt8) (n:Int):(KB kind n).length≤kind.length+6:=by
 unfold KB
 split
 ·rw [List.length_append,Vh]; omega
 ·simp
theorem Qfj {a b:List UInt8} (ha:a≠[]) (hl:a.length+b.length≤64) (h1:a.all JO=true) (h2:b.all JO=true):Zj (a++b)=true:=by
 unfold Zj;rw [List.all_append,h1,h2,List.length_append,decide_eq_true hl]
 cases a with
 | nil=>exact absurd rfl ha
 | cons x a=>rfl
theorem name_ok {n:Int} (hn:QU n=true):Zj (Qz n)=true:=by
 unfold Qz;rw [HO hn]
 exact Qfj QF (by rw [Vh]; decide) QF<|dig_letters _ _
theorem new_ok {n:Int} (hn:QU n=true):Zj (Q1 n)=true:=by
 unfold Q1 Zz;rw [HO hn,List.append_assoc];refine Qfj QF (by rw [List.length_append,Vh]; decide) QF ?_;rw [List.all_append,show (six n.toNat).all JO=true from dig_letters _ _]
 decide
theorem Qcp (n:Int):(Qz n).length≤11:=Qco _ _
theorem Qha (n:Int):(Zz n).length≤12:=Qco _ _
theorem Qur (n:Int):(Q1 n).length≤16:=by
 have:=Qha n
 unfold Q1;rw [List.length_append]
 have:newB.length=4:=rfl
 omega
theorem YN (n:Int):(JX n).length≤20:=by
 unfold JX;have h4:(JR n).length=4:=Q9 n;rw [ZT QF Qb,h4]
 have:=uvB_length 4 Qb
 omega
theorem Qjg {D:DiskD} (h:D.stops=false):QH D=D:=by
 unfold QH;rw [if_neg (by simp [h])]
theorem Qnb {D:DiskD} (h:D.stops=false) (k:DiskD→Int×DiskD):opM D k=k D:=by
 unfold opM;rw [if_neg (by simp [h]),Qjg h]
theorem Yl {D:DiskD} {n:Key} {k:FileD→Int×DiskD} (hk:∀ f,(k f).2.stops=D.stops):(Ym D n k).2.stops=D.stops:=by
 unfold Ym
 split
 ·rfl
 ·exact hk _
theorem Qmh (D:DiskD):(QH D).stops=D.stops:=by unfold QH; split <;> rfl
theorem UA {D:DiskD} {k:DiskD→Int×DiskD} (hk:∀ E:DiskD,(k E).2.stops=E.stops):(opM D k).2.stops=D.stops:=by
 unfold opM
 split
 ·rfl
 ·rw [hk,Qmh]
theorem Qmt (D:DiskD) (n:Key) (f:FileD) (i:Nat) (d:List UInt8):(Xe D n f i d).2.stops=D.stops:=by
 unfold Xe
 split
 ·rfl
 ·split <;> rfl
theorem Zg (D:DiskD) (n:Key):(QV D n).2.stops=D.stops:=UA fun _=>by
 split
 ·split <;> rfl
 ·rfl
theorem Jq (D:DiskD) (n:Key) (d:List UInt8):(QI D n d).2.stops=D.stops:=UA fun _=>Yl fun _=>Qmt _ _ _ _ _
theorem UL (D:DiskD) (n:Key):(Ku D n).2.stops=D.stops:=UA fun _=>Yl fun _=>rfl
theorem Za (D:DiskD) (n:Key):(Q7 D n).2.stops=D.stops:=UA fun _=>Yl fun _=>rfl
theorem Qgp (D:DiskD) (a b:Key):(Kx D a b).2.stops=D.stops:=UA fun _=>by
 split
 ·refine Yl fun _=>?_
  split <;> rfl
 ·rfl
theorem Qre (D:DiskD) (n:Key) (i:Int) (b:UInt8):(rotM D n i b).2.stops=D.stops:=Yl fun _=>by split <;> rfl
theorem Qgw (D:DiskD) (n:Int):(Q2 D n).2.stops=D.stops:=by
 unfold Q2
 split
 ·rfl
 split
 ·exact Zg _ _
 split
 ·rw [Za,Jq,Zg]
 ·rw [Jq,Zg]
theorem Qmx (D:DiskD) (x:Wri) (d:List UInt8):(QD D x d).2.2.stops=D.stops:=by
 unfold QD
 split
 ·rfl
 split
 ·rfl
 split
 ·rfl
 split
 ·rfl
 split
 ·exact Jq _ _ _
 ·exact Jq _ _ _
theorem Qgu (D:DiskD) (x:Wri):(Jc D x).2.2.stops=D.stops:=by
 unfold Jc
 split
 ·rfl
 split
 ·exact Jq _ _ _
 split
 ·rw [UL,Jq]
 ·rw [UL,Jq]
theorem Qjv (D:DiskD) (n:Int) (l:List Ent):(JK D n l).2.stops=D.stops:=by
 unfold JK
 split
 ·rfl
 split
 ·rw [Zg,Za]
 split
 ·rw [Za,Jq,Zg,Za]
 ·rw [Qgp,UL,Jq,Zg,Za]
theorem Qad {n:Nat} {D:DiskD} (h:Good n D) (k:Int):Good (n+30) (Q2 D k).2:=by
 have h1:=ZC h (Qz k);have h2:=JB h1 (Qz k) (JX k);have hl:=YN k;unfold Q2
 split
 ·exact h.mono Qb
 split
 ·exact h1.mono Qb
 split
 ·exact (ZU h2 _).mono Qb
 ·exact h2.mono Qb
theorem Y4 (d:List UInt8) (hd:d.length≤1048000):(ZI d).length≤d.length+50:=by
 unfold ZI;have h:=JD d;rw [ZT QF (by rw [List.length_append]; omega),List.length_append,h]
 have:=uvB_length (32+d.length) Qb
 omega
theorem XW (l:List Ent):(Zw l).length≤20:=by
 unfold Zw;have h4:(JR (l.length:Int)).length=4:=Q9 _;rw [ZT QF Qb,h4]
 have:=uvB_length 4 Qb
 omega
theorem Qfc {n:Nat} {D:DiskD} (h:Good n D) (x:Wri) (d:List UInt8):Good (n+1100) (QD D x d).2.2:=by
 unfold QD
 split
 ·exact h.mono Qb
 split
 ·exact h.mono Qb
 rename_i h1
 have h2:=JB h (Qz x.n) (ZI d);have hl:=Y4 d Qb
 split
 ·exact h.mono Qb
 split
 ·exact h.mono Qb
 split
 ·exact h2.mono Qb
 ·exact h2.mono Qb
theorem Qjw {n:Nat} {D:DiskD} (h:Good n D) (x:Wri):Good (n+30) (Jc D x).2.2:=by
 have h2:=JB h (Qz x.n) (Zw x.l);have hl:=XW x.l;unfold Jc
 split
 ·exact h.mono Qb
 split
 ·exact h2.mono Qb
 split
 ·exact (YK h2 _).mono Qb
 ·exact (YK h2 _).mono Qb
theorem Qmu {n:Nat} {D:DiskD} (h:Good n D) (k:Int) (l:List Ent):Good (n+(ZH l).length+3) (JK D k l).2:=by
 have h0:=ZU h (Q1 k);have h1:=ZC h0 (Q1 k);have h2:=JB h1 (Q1 k) (ZH l);unfold JK
 split
 ·exact h.mono Qb
 split
 ·exact h1.mono Qb
 split
 ·exact (ZU h2 _).mono Qb
 ·exact (Qjq (YK h2 _) _ _).mono Qb
end
section
open Go.RowKit Sha
structure PTabs (B:Nat) (w:World):Prop where
  sha:ShaTabs w
  pow:PowTab w
  k:1<B
  b:0<B
  p:2<B
theorem gPow : Tryz.prog.globalNamed "internal/strconv.uint64pow10" = some 2 := by kernel_rfl
theorem PTabs.chg {B:Nat} {w w':World} {S:Nat→Prop} (h:PTabs B w) (hc:Chg S w w') (hS:∀ k,S k→B≤k):PTabs B w':=by
 refine ⟨h.sha.chg hc ⟨fun e=>by have:=hS _ e; have:=h.k; omega,fun e=>by have:=hS _ e; have:=h.b; omega⟩,?_,h.k,h.b,h.p⟩
 have hp : w.var? Tryz.prog "internal/strconv.uint64pow10" = some (Lib.pow10Tab.map fun z => Value.int .u64 z).toArray := h.pow
 show w'.var? Tryz.prog "internal/strconv.uint64pow10" = some (Lib.pow10Tab.map fun z => Value.int .u64 z).toArray
 unfold World.var? at hp ⊢;rw [gPow] at hp ⊢;simp only [Option.bind_some] at hp ⊢
 have hlt:2<w.heap.size:=by
  rcases Nat.lt_or_ge 2 w.heap.size with h'|h'
  ·exact h'
  ·rw [Array.getElem?_eq_none h'] at hp; cases hp
 rw [hc.block _ hlt (fun e=>by have:=hS _ e; have:=h.p; omega)];exact hp
theorem PTabs.bel {B:Nat} {w w':World} (h:PTabs B w) (hb:Below w.heap.size w w'):PTabs B w':=h.chg (Chg.of_below hb (fun _=>False)) (fun _ e=>e.elim)
theorem PTabs.to {B C:Nat} {w:World} (h:PTabs B w) (hC:B≤C):PTabs C w:=⟨h.sha,h.pow,by have:=h.k; omega,by have:=h.b; omega,by have:=h.p; omega⟩
theorem Qrc (s:List UInt8) (n:Int) (hs:s.length≤16777216):(Zp s n).1.l.length≤441505:=by
 have h:=Qjm s n;have h1:=h.l;have h2:=h.g
 omega
theorem nilEqPk (w:World) (a:Addr):(binOp .eql 34 (.pointer (some a)) (.pointer none)).run Tryz.prog w=.ok (.bool false) w:=by kernel_rfl
theorem nilEqNk (w:World):(binOp .eql 34 (.pointer none) (.pointer none)).run Tryz.prog w=.ok (.bool true) w:=by kernel_rfl
theorem nilNePk (w:World) (a:Addr):(binOp .neq 34 (.pointer (some a)) (.pointer none)).run Tryz.prog w=.ok (.bool true) w:=by kernel_rfl
theorem nilNeNk (w:World):(binOp .neq 34 (.pointer none) (.pointer none)).run Tryz.prog w=.ok (.bool false) w:=by kernel_rfl
theorem nilEqPw (w:World) (a:Addr):(binOp .eql 33 (.pointer (some a)) (.pointer none)).run Tryz.prog w=.ok (.bool false) w:=by kernel_rfl
theorem nilEqNw (w:World):(binOp .eql 33 (.pointer none) (.pointer none)).run Tryz.prog w=.ok (.bool true) w:=by kernel_rfl
theorem nilNePw (w:World) (a:Addr):(binOp .neq 33 (.pointer (some a)) (.pointer none)).run Tryz.prog w=.ok (.bool true) w:=by kernel_rfl
theorem nilNeNw (w:World):(binOp .neq 33 (.pointer none) (.pointer none)).run Tryz.prog w=.ok (.bool false) w:=by kernel_rfl
theorem Qfy {l:Env} {x:Operand} {w:World} {t' ty:TypeId} {p:Option Addr} (hx:ev l x=some (.pointer p)):X Tryz.prog l (.binOp .eql 34 x (.const (.pointer none)) t') ty w (.bool p.isNone) w :=
 JJ hx rfl ZM (by cases p with|none=>exact nilEqNk w|some a=>exact nilEqPk w a)
theorem Qqf {l:Env} {x:Operand} {w:World} {t' ty:TypeId} {p:Option Addr} (hx:ev l x=some (.pointer p)):X Tryz.prog l (.binOp .neq 34 x (.const (.pointer none)) t') ty w (.bool p.isSome) w :=
 JJ hx rfl ZM (by cases p with|none=>exact nilNeNk w|some a=>exact nilNePk w a)
theorem Qfx {l:Env} {x:Operand} {w:World} {t' ty:TypeId} {p:Option Addr} (hx:ev l x=some (.pointer p)):X Tryz.prog l (.binOp .eql 33 x (.const (.pointer none)) t') ty w (.bool p.isNone) w :=
 JJ hx rfl ZM (by cases p with|none=>exact nilEqNw w|some a=>exact nilEqPw w a)
theorem X.wNe {l:Env} {x:Operand} {w:World} {t' ty:TypeId} {p:Option Addr} (hx:ev l x=some (.pointer p)):X Tryz.prog l (.binOp .neq 33 x (.const (.pointer none)) t') ty w (.bool p.isSome) w :=
 JJ hx rfl ZM (by cases p with|none=>exact nilNeNw w|some a=>exact nilNePw w a)
theorem Vg {D:DiskD} {k:Key} (h:mget D.files k=none):ZS D k=(0,15):=by unfold ZS; rw [h]
theorem Uf {D:DiskD} {k:Key} {f:FileD} (h:mget D.files k=some f):ZS D k=((f.now.length:Int),0):=by unfold ZS; rw [h]
theorem Zd {D:DiskD} {k:Key} (h:mget D.files k=none):Jo D k=([],15):=by unfold Jo; rw [h]
theorem Zc {D:DiskD} {k:Key} {f:FileD} (h:mget D.files k=some f):Jo D k=(f.now,0):=by unfold Jo; rw [h]
theorem Qjt {D:DiskD} {k:Key} {f:FileD} (h:mget D.files k=some f):Kd D k 0 f.now.length=(f.now,0):=by
 unfold Kd;rw [h]
 show (if _ then _ else _)=_
 rw [if_neg Qb]
 simp
theorem US {D:DiskD} (hok:DOk D) (k:Key):(Jo D k).1.length≤16777216:=by
 unfold Jo
 cases h:mget D.files k with
 | none=>simp
 | some f=>exact (hok.len h).1
theorem Qew (g:Nat) (D:DiskD) (S:Nat→Prop) (k:Key) (w:World) (h:DiskAt w g D S) (hok:DOk D) :
  Calls Tryz.prog 98 #[.pointer (some ⟨g,0,none⟩),Qv k] w fun e w'=>e=.returned (.tuple #[Qv (Jo D k).1,.int .i64 (Jo D k).2])∧Below w.heap.size w w':=by
 have hS:=Qlu g D S k
 cases hm:mget D.files k with
 | none =>
  rw [Zd hm];rw [Vg hm] at hS
  refine Qj (args:=[.pointer (some ⟨g,0,none⟩),Qv k]) 23 Tryz.func98 Z Z Z<|Qt [(0,.pointer (some ⟨g,0,none⟩)),(1,Qv k)] ?_ ⟨Z,Z,tvA⟩
  have bw:=Below.refl w.heap.size w
  refine Qa<|sa Z Z<|sa Z Z<|Wn<|tN<|Qa<|sm Z Z<|sm Z Z<|sc _ fz30 Z Qo Z Z (Q3 (hS _ h) fun w1 hb=>?_)
  replace bw:=Ql bw hb;replace h:=h.bel hb;have zz1:=hb.size;clear hb
  refine sm Z Z<|st (Qu Z Z) Z<|st (Qu Z Z) Z<|sa Z Z<|sa Z Z<|Wn<|tN<|Qe<|Qa<|sm Z Z<|st (QC Z Z) Z<|Wn<|tN<|QO Z (Z)<|Qa<|sm Z Z<|sa Z Z<|sa Z Z<|Wn<|tN<|Qg<|tR ?_
  exact (J6 Z Z Z ⟨Z,bw⟩).1
 | some f =>
  have hR:=Qlv g D S k 0 f.now.length;rw [Zc hm];rw [Uf hm] at hS;rw [Qjt hm] at hR
  refine Qj (args:=[.pointer (some ⟨g,0,none⟩),Qv k]) 23 Tryz.func98 Z Z Z<|Qt [(0,.pointer (some ⟨g,0,none⟩)),(1,Qv k)] ?_ ⟨Z,Z,tvA⟩
  have bw:=Below.refl w.heap.size w
  refine Qa<|sa Z Z<|sa Z Z<|Wn<|tN<|Qa<|sm Z Z<|sm Z Z<|sc _ fz30 Z Qo Z Z (Q3 (hS _ h) fun w1 hb=>?_)
  replace bw:=Ql bw hb;replace h:=h.bel hb;have zz1:=hb.size;clear hb
  refine sm Z Z<|st (Qu Z Z) Z<|st (Qu Z Z) Z<|sa Z Z<|sa Z Z<|Wn<|tN<|Qe<|Qa<|sm Z Z<|st (QC Z Z) Z<|Wn<|tN<|QX Z (Z)<|Qf<|tN<|Qa<|sm Z Z<|sm Z Z<|sm Z Z<|sc _ Tryz.func102 Z Qo Z Z (Q3 (hR _ h hok) fun w2 hb=>?_)
  replace bw:=Ql bw hb;replace h:=h.bel hb;have zz2:=hb.size;clear hb
  refine st (Qu Z Z) Z<|st (Qu Z Z) Z<|sa Z Z<|sa Z Z<|Wn<|tN<|Qg ?_
  exact (J6 Z Z Z ⟨Z,bw⟩).1
structure PakAt (w:World) (gd gp gx gm:Nat) (v:Value) (n:Int) (x:Scn):Prop where
  blk:Blk w gp 169 #[.pointer (some ⟨gd,0,none⟩),.int .i64 n,.pointer (some ⟨gx,0,none⟩)]
  scn:ScnAt w gx gm v x
def PakOwn (B:Nat) (gp gx gm:Nat) (v:Value):Prop:=B≤gp∧Qwy B gx gm v
theorem PakAt.chg {w w':World} {gd gp gx gm:Nat} {v:Value} {n:Int} {x:Scn} {S:Nat→Prop} (h:PakAt w gd gp gx gm v n x) (hc:Chg S w w') (h1:¬S gp) (h2:¬S gx) (h3:¬S gm) (h4:∀ k,v.ownBlock=some k→¬S k):PakAt w' gd gp gx gm v n x:=⟨h.blk.chg hc h1,h.scn.chg hc h2 h3 h4⟩
def Qtb (w:World) (gd:Nat) (n:Int) (r:Scn×Int) (e:Ending) (w':World):Prop :=
  ∃ p:Option Addr,e=.returned (.tuple #[.pointer p,.int .i64 r.2])∧(r.2≠0→p=none) ∧
  (r.2=0→∃ gp gx gm v,p=some ⟨gp,0,none⟩∧PakAt w' gd gp gx gm v n r.1∧PakOwn w.heap.size gp gx gm v)∧Below w.heap.size w w'
theorem bpak (gd gx:Nat) (n:Int) (w:World):(Instr.build 169 #[(0,.pointer (some ⟨gd,0,none⟩)),(1,.int .i64 n),(2,.pointer (some ⟨gx,0,none⟩))]).run Tryz.prog w=.ok (.agg #[.pointer (some ⟨gd,0,none⟩),.int .i64 n,.pointer (some ⟨gx,0,none⟩)]) w:=by kernel_rfl
theorem Qex (B gd:Nat) (D:DiskD) (S:Nat→Prop) (n:Int) (w:World) (hd:DiskAt w gd D S) (hok:DOk D) (hT:PTabs B w) :
  Calls Tryz.prog 50 #[.pointer (some ⟨gd,0,none⟩),.int .i64 n] w (Qtb w gd n (QB D n)):=by
 have hlen:=US hok (Qz n);unfold QB
 refine Qj (args:=[.pointer (some ⟨gd,0,none⟩),.int .i64 n]) 40 Tryz.func50 Z Z Z<|Qt [(0,.pointer (some ⟨gd,0,none⟩)),(1,.int .i64 n)] ?_ ⟨Z,Z,tvA⟩
 have bw:=Below.refl w.heap.size w
 refine Qa<|sa Z Z<|sa Z Z<|Wn<|tN<|Qe<|Qa<|sm Z Z<|sm Z Z<|sc _ fz24 Z Qo Z Z (Q3 (VI (some ⟨gd,0,none⟩) n _) fun w1 hb=>?_)
 replace bw:=Ql bw hb;replace hd:=hd.bel hb;replace hT:=hT.bel hb;have zz1:=hb.size;clear hb
 refine sa Z Z<|Wn<|tN<|Qa<|sm Z Z<|st (QC Z Z) Z<|Wn<|tN<|Qx Z (fun h14=>?_) (fun h14=>?_)
 ·replace h14:=Qs h14
  have hr:QU n=false:=by cases h:QU n with|false=>rfl|true=>exact absurd (by simp [Vl,h]) h14
  refine Qa<|sm Z Z<|sa Z Z<|sa Z Z<|Wn<|tN<|Qg<|tR ?_
  exact (J6 Z Z Z ⟨none,by simp [Vl,hr],fun _=>rfl,fun h=>absurd h (by rw [if_pos hr]; decide),bw⟩).1
 ·replace h14:=Qs h14
  have hr:¬QU n=false:=fun h=>h14 (by simp [Vl,h])
  rw [if_neg hr]
  refine Qf<|tN<|Qa<|sm Z Z<|sm Z Z<|sc _ fz13 Z Qo Z Z (Q3 (Ua n _ hT.pow) fun w2 hb=>?_)
  replace bw:=Ql bw hb;replace hd:=hd.bel hb;replace hT:=hT.bel hb;have zz2:=hb.size;clear hb;refine sc _ Tryz.func98 Z Qo Z Z (Q3 (Qew gd D S (Qz n) _ hd hok) fun w3 hb=>?_);replace bw:=Ql bw hb;replace hd:=hd.bel hb;replace hT:=hT.bel hb;have zz3:=hb.size;clear hb
  refine sm Z Z<|st (Qu Z Z) Z<|st (Qu Z Z) Z<|sa Z Z<|sa Z Z<|Wn<|tN<|Qe<|Qa<|sm Z Z<|st (QC Z Z) Z<|Wn<|tN<|Qx Z (fun h24=>?_) (fun h24=>?_)
  ·replace h24:=Qs h24;rw [if_pos h24]
   refine Qa<|sm Z Z<|sa Z Z<|sa Z Z<|Wn<|tN<|Qg<|tR ?_
   exact (J6 Z Z Z ⟨none,Z,fun _=>rfl,fun h=>absurd h h24,bw⟩).1
  ·replace h24:=Qs h24;rw [if_neg h24]
   refine Qf<|tN<|Qa<|sm Z Z<|sm Z Z<|sc _ Tryz.func99 Z Qo Z Z<|(Que (Jo D (Qz n)).1 n _ hT.sha hlen).mono ?_
   rintro e_ w4 ⟨p,rfl,hpn,hps,hb⟩;refine cR ?_;replace bw:=Ql bw hb;replace hd:=hd.bel hb;replace hT:=hT.bel hb;have zz4:=hb.size;clear hb
   refine sm Z Z<|st (Qu Z Z) Z<|st (Qu Z Z) Z<|sa Z Z<|sa Z Z<|Wn<|tN<|Qe<|Qa<|sm Z Z<|st (QC Z Z) Z<|Wn<|tN<|Qx Z (fun h33=>?_) (fun h33=>?_)
   ·replace h33:=Qs h33
    refine Qa<|sm Z Z<|sa Z Z<|sa Z Z<|Wn<|tN<|Qg<|tR ?_
    exact (J6 Z Z Z ⟨none,Z,fun _=>rfl,fun h=>absurd h h33,bw⟩).1
   ·replace h33:=Qs h33;obtain h33:(Zp (Jo D (Qz n)).1 n).2=0:=Decidable.of_not_not h33;obtain ⟨gx,gm,v,rfl,hS,hSO⟩:=hps h33;obtain ⟨ho1,ho2,ho3⟩:=hSO;clear hps hpn
    refine Qf<|tN<|Qa<|sm Z Z<|sm Z Z<|sm Z Z<|st (Ja Z (bpak gd gx n _)) Z<|J1 Z Z (fun g39 w5 hB39 hg39 hb hl39=>?_)
    replace bw:=Ql bw hb;replace hd:=hd.bel hb;replace hT:=hT.bel hb;replace hS:=hS.bel hb;have zz5:=hb.size;clear hb
    refine sa Z Z<|sa Z Z<|Wn<|tN<|Qg<|(J6 Z Z Z ⟨_,by rw [h33],fun h=>absurd h33 h,fun _=>⟨g39,gx,gm,v,Z,⟨hB39,hS⟩,by omega,by omega,by omega,fun k hk=>by have:=ho3 k hk; omega⟩,bw⟩).1
end
section
open Go.RowKit Sha
def WrT (gw gx gm:Nat) (v:Value) (k:Nat):Prop:=k=gw∨k=gx∨k=gm∨v.ownBlock=some k
def Qje (gd gx:Nat) (x:Wri):Array Value:=#[.pointer (some ⟨gd,0,none⟩),.int .i64 x.n,.pointer (some ⟨gx,0,none⟩),.bool x.closed]
structure WrF (B:Nat) (w:World) (gd gw gx gm:Nat) (D:DiskD) (v:Value) (S:Nat→Prop):Prop where
  own:Own B w gd D S
  ap:∀ k,WrT gw gx gm v k→¬S k∧B≤k
  gB:B≤w.heap.size
structure WrAll (B:Nat) (w:World) (gd gw gx gm:Nat) (D:DiskD) (x:Wri) (v:Value) (S:Nat→Prop):Prop where
  blk:Blk w gw 81 (Qje gd gx x)
  scn:ScnAt w gx gm v ⟨x.l,0,false⟩
  wf:WrF B w gd gw gx gm D v S
section
variable {B gd gw gx gm:Nat} {w w':World} {D:DiskD} {x:Wri} {v:Value} {S T:Nat→Prop}
theorem WrF.bel (h:WrF B w gd gw gx gm D v S) (hb:Below w.heap.size w w'):WrF B w' gd gw gx gm D v S:=⟨h.own.bel hb,h.ap,Nat.le_trans h.gB hb.size⟩
theorem WrF.chg (h:WrF B w gd gw gx gm D v S) (hC:Chg T w w') (hn:∀ k,S k→¬T k):WrF B w' gd gw gx gm D v S:=⟨h.own.other hC (fun k h1 h2=>hn k h2 h1),h.ap,Nat.le_trans h.gB hC.size⟩
theorem WrAll.bel (h:WrAll B w gd gw gx gm D x v S) (hb:Below w.heap.size w w'):WrAll B w' gd gw gx gm D x v S:=⟨h.blk.bel hb,h.scn.bel hb,h.wf.bel hb⟩
end
theorem VJ {P:Program} {f:FuncId} {args:Array Value} {B gd:Nat} {w0 w:World} {D:DiskD} {S S1 X:Nat→Prop} {x:Int×DiskD}
  (hc:Calls P f args w (DPost gd S1 w x)) (hd:Own B w gd D S1) (hB:B≤w.heap.size) (hT:PTabs B w) (hcw:Chg X w0 w) (hSX:∀ k,S k→X k) (hS1:∀ k,S1 k→S k∨w0.heap.size≤k) :
  Calls P f args w (fun e' w'=>e'=.returned (.int .i64 x.1)∧∃ S2,Own B w' gd x.2 S2∧PTabs B w'∧(∀ k,S2 k→S k∨w0.heap.size≤k)∧((∀ k,S2 k→S1 k∨w.heap.size≤k)∧Chg S1 w w')∧Chg X w0 w'∧w.heap.size≤w'.heap.size):=by
 refine hc.mono ?_;rintro e' w' ⟨rfl,h1,hX⟩;have hsz:=hcw.size;refine ⟨Z,Ext S1 w w',hd.step h1 hX hB,hT.chg hX (fun k hk=>(hd.lo k hk).1),?_,⟨?_,hX⟩,hcw.next hX (fun i hi=>(hS1 i hi).imp (hSX i) id),hX.size⟩
 ·rintro k (h|⟨h,_⟩)
  ·exact hS1 k h
  ·right; omega
 ·rintro k (h|⟨h,_⟩)
  ·exact .inl h
  ·exact .inr h
theorem Qtn {P:Program} {f:FuncId} {args:Array Value} {B gd gw gx gm:Nat} {w0 w:World} {D:DiskD} {q:Scn} {cs:Array Value} {v:Value} {S S1 X:Nat→Prop} {x:Int×DiskD}
  (hc:Calls P f args w (DPost gd S1 w x)) (hB:Blk w gw 81 cs) (hS:ScnAt w gx gm v q) (hF:WrF B w gd gw gx gm D v S1) (hT:PTabs B w) (hcw:Chg X w0 w) (hSX:∀ k,S k→X k) (hS1:∀ k,S1 k→S k∨w0.heap.size≤k) :
  Calls P f args w (fun e' w'=>e'=.returned (.int .i64 x.1)∧∃ S2,Blk w' gw 81 cs∧ScnAt w' gx gm v q∧WrF B w' gd gw gx gm x.2 v S2∧PTabs B w'∧(∀ k,S2 k→S k∨w0.heap.size≤k)∧((∀ k,S2 k→S1 k∨w.heap.size≤k)∧Chg S1 w w')∧Chg X w0 w'∧w.heap.size≤w'.heap.size):=by
 refine hc.mono ?_;rintro e' w' ⟨rfl,h1,hX⟩;have hsz:=hcw.size;have hlt:=hB.lt;have hlx:=hS.blk.lt;obtain ⟨m,hM,_⟩:=hS.map;have hlm:=hM.lt;have hlv:=X7 hS.row
 have hap:∀ k,WrT gw gx gm v k→k<w.heap.size:=by
  rintro k (rfl|rfl|rfl|e)
  ·exact hlt
  ·exact hlx
  ·exact hlm
  ·exact hlv k e
 refine ⟨Z,Ext S1 w w',hB.chg hX (hF.ap _ (.inl Z)).1,hS.chg hX (hF.ap _ (.inr (.inl Z))).1 (hF.ap _ (.inr (.inr (.inl Z)))).1 (fun k hk=>(hF.ap _ (.inr (.inr (.inr hk)))).1),⟨hF.own.step h1 hX hF.gB,fun k hk=>⟨?_,(hF.ap k hk).2⟩,Nat.le_trans hF.gB hX.size⟩,
  hT.chg hX (fun k hk=>(hF.own.lo k hk).1),?_,⟨?_,hX⟩,hcw.next hX (fun i hi=>(hS1 i hi).imp (hSX i) id),hX.size⟩
 ·rintro (h|⟨h,_⟩)
  ·exact (hF.ap k hk).1 h
  ·have:=hap k hk
   omega
 ·rintro k (h|⟨h,_⟩)
  ·exact hS1 k h
  ·right; omega
 ·rintro k (h|⟨h,_⟩)
  ·exact .inl h
  ·exact .inr h
theorem bwri (gd gx:Nat) (n:Int) (w:World):(Instr.build 81 #[(0,.pointer (some ⟨gd,0,none⟩)),(1,.int .i64 n),(2,.pointer (some ⟨gx,0,none⟩))]).run Tryz.prog w=.ok (.agg #[.pointer (some ⟨gd,0,none⟩),.int .i64 n,.pointer (some ⟨gx,0,none⟩),.bool false]) w:=by kernel_rfl
def Qpd (B:Nat) (w:World) (gd:Nat) (S:Nat→Prop) (n:Int) (r:Int×DiskD) (e:Ending) (w':World):Prop :=
  ∃ (p:Option Addr) (S':Nat→Prop),e=.returned (.tuple #[.pointer p,.int .i64 r.1])∧Own B w' gd r.2 S'∧(∀ k,S' k→S k∨w.heap.size≤k)∧Chg S w w'∧(r.1≠0→p=none) ∧
  (r.1=0→∃ gw gx gm v,p=some ⟨gw,0,none⟩∧WrAll B w' gd gw gx gm r.2 ⟨n,[],false⟩ v S'∧(∀ k,WrT gw gx gm v k→w.heap.size≤k))
theorem Qci (B gd:Nat) (D:DiskD) (S:Nat→Prop) (n:Int) (N:Nat) (w:World) (hd:Own B w gd D S) (hg:Good N D) (hN:N≤1000000000) (hBw:B≤w.heap.size) (hT:PTabs B w) :
  Calls Tryz.prog 11 #[.pointer (some ⟨gd,0,none⟩),.int .i64 n] w (Qpd B w gd S n (Q2 D n)):=by
 have hg1:=ZC hg (Qz n);have hg2:=JB hg1 (Qz n) (JX n);have hl:=YN n
 have hS1:∀ k,S k→S k∨w.heap.size≤k:=fun k hk=>.inl hk
 unfold Q2
 refine Qj (args:=[.pointer (some ⟨gd,0,none⟩),.int .i64 n]) 43 Tryz.func11 Z Z Z<|Qt [(0,.pointer (some ⟨gd,0,none⟩)),(1,.int .i64 n)] ?_ ⟨Z,Z,tvA⟩
 have hcw:=Chg.refl (S) w
 refine Qa<|sa Z Z<|sa Z Z<|Wn<|tN<|Qe<|Qa<|sm Z Z<|sm Z Z<|sc _ fz24 Z Qo Z Z (Q3 (VI (some ⟨gd,0,none⟩) n _) fun w1 hb=>?_)
 replace hcw:=hcw.then_below hb;replace hd:=hd.bel hb;replace hT:=hT.bel hb;have zz1:=hb.size;clear hb
 refine sa Z Z<|Wn<|tN<|Qa<|sm Z Z<|st (QC Z Z) Z<|Wn<|tN<|Qx Z (fun h13=>?_) (fun h13=>?_)
 ·replace h13:=Qs h13
  have hr:QU n=false:=by cases h:QU n with|false=>rfl|true=>exact absurd (by simp [Vl,h]) h13
  refine Qa<|sm Z Z<|sa Z Z<|sa Z Z<|Wn<|tN<|Qg<|tR ?_
  exact (J6 Z Z Z ⟨none,S,by simp [Vl,hr],by rw [if_pos hr]; exact hd,hS1,hcw,fun _=>rfl,fun h=>absurd h (by rw [if_pos hr]; show ¬((1:Int)=0); decide)⟩).1
 ·replace h13:=Qs h13
  have hr:¬QU n=false:=fun h=>h13 (by simp [Vl,h])
  rw [if_neg hr]
  refine Qf<|tN<|Qe<|Qa<|sm Z Z<|sm Z Z<|sc _ fz13 Z Qo Z Z (Q3 (Ua n _ hT.pow) fun w2 hb=>?_)
  replace hcw:=hcw.then_below hb;replace hd:=hd.bel hb;replace hT:=hT.bel hb;have zz2:=hb.size;clear hb
  refine sc _ fz25 Z Qo Z Z<|(VJ (Qej gd D S (Qz n) _ hd.at_ hg.ok) hd (Nat.le_trans hBw hcw.size) hT hcw (fun k hk=>hk) hS1).mono ?_
  clear hd hT;rintro e_ w3 ⟨rfl,S1,hd,hT,hS1,hS2,hcw,hz1_⟩;refine cR ?_
  obtain ⟨e1,D1,hp1⟩:∃ e D',QV D (Qz n)=(e,D'):=⟨_,_,rfl⟩
  rw [hp1] at hd hg1 hg2 ⊢;simp only at hd hg1 hg2 ⊢
  refine sa Z Z<|Wn<|tN<|Qa<|sm Z Z<|st (QC Z Z) Z<|Wn<|tN<|Qx Z (fun h20=>?_) (fun h20=>?_)
  ·replace h20:=Qs h20;rw [if_pos h20]
   refine Qa<|sm Z Z<|sa Z Z<|sa Z Z<|Wn<|tN<|Qg<|tR ?_
   exact (J6 Z Z Z ⟨none,S1,Z,hd,hS1,hcw,fun _=>rfl,fun h=>absurd h h20⟩).1
  ·replace h20:=Qs h20;rw [if_neg h20]
   refine Qf<|tN<|Qe<|Qa<|sm Z Z<|sm Z Z<|sc _ fz13 Z Qo Z Z (Q3 (Ua n _ hT.pow) fun w4 hb=>?_)
   replace hcw:=hcw.then_below hb;replace hd:=hd.bel hb;replace hT:=hT.bel hb;have zz4:=hb.size;clear hb
   refine sm Z Z<|sc _ fz28 Z Qo Z Z (Q3 (XR n _) fun w5 hb=>?_)
   replace hcw:=hcw.then_below hb;replace hd:=hd.bel hb;replace hT:=hT.bel hb;have zz5:=hb.size;clear hb;refine sc _ fz27 Z Qo Z Z (Q3 (Hc 1 (JR n) _ (by rw [Q9]; omega)) fun w6 hb=>?_);replace hcw:=hcw.then_below hb;replace hd:=hd.bel hb;replace hT:=hT.bel hb;have zz6:=hb.size;clear hb
   refine sc _ fz26 Z Qo Z Z<|(VJ (U2 gd D1 _ (Qz n) (JX n) _ hd.at_ hg1.ok (hg1.bud Qb) Qb) hd (Nat.le_trans hBw hcw.size) hT hcw (fun k hk=>hk) hS1).mono ?_
   clear hd hT;rintro e_ w7 ⟨rfl,S2,hd,hT,hS1,hS2,hcw,hz2_⟩;refine cR ?_
   obtain ⟨e2,D2,hp2⟩:∃ e D',QI D1 (Qz n) (JX n)=(e,D'):=⟨_,_,rfl⟩
   rw [hp2] at hd hg2 ⊢;simp only at hd hg2 ⊢
   refine sa Z Z<|Wn<|tN<|Qa<|sm Z Z<|st (QC Z Z) Z<|Wn<|tN<|Qx Z (fun h30=>?_) (fun h30=>?_)
   ·replace h30:=Qs h30;rw [if_pos h30]
    refine Qa<|sm Z Z<|sm Z Z<|sc _ fz13 Z Qo Z Z (Q3 (Ua n _ hT.pow) fun w8 hb=>?_)
    replace hcw:=hcw.then_below hb;replace hd:=hd.bel hb;replace hT:=hT.bel hb;have zz8:=hb.size;clear hb
    refine sc _ fz29 Z Qo Z Z<|(VJ (U1 gd D2 _ (Qz n) _ hd.at_ hg2.ok) hd (Nat.le_trans hBw hcw.size) hT hcw (fun k hk=>hk) hS1).mono ?_
    clear hd hT;rintro e_ w9 ⟨rfl,S3,hd,hT,hS1,hS2,hcw,hz3_⟩
    refine cR<|Wn<|tN<|Qa<|sm Z Z<|sa Z Z<|sa Z Z<|Wn<|tN<|Qg<|tR ?_
    exact (J6 Z Z Z ⟨none,S3,Z,hd,hS1,hcw,fun _=>rfl,fun h=>absurd h h30⟩).1
   ·replace h30:=Qs h30;rw [if_neg h30];obtain rfl:e2=0:=Decidable.of_not_not h30
    refine Qf<|tN<|Qa<|sm Z Z<|sm Z Z ?_
    have hlo0:=hd.lo;have hzc0:=hcw.size;refine smm (enc:=Y2) (encv:=Qod) Z (fun gm w10 hM hgm hb hlm=>?_);replace hcw:=hcw.then_below hb;replace hd:=hd.bel hb;replace hT:=hT.bel hb;have zz10:=hb.size;clear hb
    refine st (Ja Z (bscn gm _)) Z<|J1 Z Z (fun g40 w11 hB40 hg40 hb hl40=>?_)
    replace hcw:=hcw.then_below hb;replace hd:=hd.bel hb;replace hT:=hT.bel hb;replace hM:=hM.bel hb;have zz11:=hb.size;clear hb
    refine st (Ja Z (bwri gd _ n _)) Z<|J1 Z Z (fun g42 w12 hB42 hg42 hb hl42=>?_)
    replace hcw:=hcw.then_below hb;replace hd:=hd.bel hb;replace hT:=hT.bel hb;replace hM:=hM.bel hb;replace hB40:=hB40.bel hb;have zz12:=hb.size;clear hb
    refine sa Z Z<|sa Z Z<|Wn<|tN<|Qg<|(J6 Z Z Z ⟨some ⟨g42,0,none⟩,S2,Z,hd,hS1,hcw,fun h=>absurd Z h,fun _=>⟨g42,g40,gm,.slice none 0 0,Z,⟨hB42,⟨hB40,Row.nil _ _ _,⟨[],hM,Z⟩,by simp [Yt]⟩,⟨hd,?_,Nat.le_trans hBw hcw.size⟩⟩,?_⟩⟩).1
    ·rintro k (rfl|rfl|rfl|e)
     ·exact ⟨fun e=>by have:=(hlo0 _ e).2; omega,by omega⟩
     ·exact ⟨fun e=>by have:=(hlo0 _ e).2; omega,by omega⟩
     ·exact ⟨fun e=>by have:=(hlo0 _ e).2; omega,by omega⟩
     ·simp [Value.ownBlock] at e
    ·rintro k (rfl|rfl|rfl|e)
     ·omega
     ·omega
     ·omega
     ·simp [Value.ownBlock] at e
end
section
open Go.RowKit Sha
theorem Qku {m:List (Sum32×Int)} {l:List Ent} (h:m.map (fun p=>(p.1.1,p.2))=Xc l) (hn:(m.map (·.1)).Nodup):(l.map (·.sum)).Nodup:=by
 have e1:(m.map (·.1)).map (·.1)=l.map (·.sum):=by
  have e:(m.map (fun p=>(p.1.1,p.2))).map (·.1)=(m.map (·.1)).map (·.1):=by simp [List.map_map,Function.comp_def]
  rw [← e,h];unfold Xc;rw [List.map_map]
  have:((fun x=>x.1) ∘ fun p:Ent×Nat=>(p.1.sum,(p.2:Int)))=(fun e:Ent=>e.sum) ∘ Prod.fst:=rfl
  rw [this,← List.map_map,List.zipIdx_map_fst]
 rw [← e1];rw [List.nodup_iff_pairwise_ne,List.pairwise_map]
 exact (List.nodup_iff_pairwise_ne.1 hn).imp fun h e=>h (Subtype.ext e)
theorem Qrw {κ ν:Type} [DecidableEq κ] {m:List (κ×ν)} {k:κ} {v:ν} (h:mget m k=some v):(k,v)∈m:=by
 induction m with
 | nil=>simp [mget] at h
 | cons p m ih =>
  obtain ⟨a,u⟩:=p;unfold mget at h
  split at h
  ·rename_i hk
   injection h with h;rw [hk,h];exact List.mem_cons_self ..
  ·exact List.mem_cons_of_mem _<|ih h
theorem Qpt {m:List (Sum32×Int)} {l:List Ent} (h:m.map (fun p=>(p.1.1,p.2))=Xc l) (hn:(m.map (·.1)).Nodup) {k:Sum32} {i:Int} (hg:mget m k=some i):∃ (j:Nat) (e:Ent),i=j∧l[j]?=some e∧e.sum=k.1∧Zf l k.1=some e:=by
 have hm:=Qrw hg
 have h1:(k.1,i)∈Xc l:=by rw [← h]; exact List.mem_map.2 ⟨_,hm,rfl⟩
 obtain ⟨p,hp,he⟩:=List.mem_map.1 h1;obtain ⟨e,j⟩:=p;have hj:=List.mem_zipIdx_iff_getElem?.1 hp;injection he with h2 h3;simp only at hj h2 h3;refine ⟨j,e,h3.symm,hj,h2,?_⟩;have hnl:=Qku h hn;obtain ⟨hjl,hje⟩:=List.getElem?_eq_some_iff.1 hj
 cases hf:Zf l k.1 with
 | none =>
  have:=List.find?_eq_none.1 hf e (List.mem_of_getElem? hj)
  simp [h2] at this
 | some e' =>
  have hm':=List.mem_of_find?_eq_some hf;have hs':=List.find?_some hf;simp only [decide_eq_true_eq] at hs';obtain ⟨j',hj',rfl⟩:=List.mem_iff_getElem.1 hm'
  have:j=j':=(List.getElem_inj (xs:=l.map (·.sum)) (h₀:=by simpa using hjl) (h₁:=by simpa using hj') hnl).1 (by simp only [List.getElem_map]; rw [hje,h2,hs'])
  subst this;rw [hje]
theorem Qkt {m:List (Sum32×Int)} {l:List Ent} (h:m.map (fun p=>(p.1.1,p.2))=Xc l) {k:Sum32} (hg:mget m k=none):Zf l k.1=none∧Xy l k.1=false:=by
 have hk:=JZ.1 hg
 have hh:Xy l k.1=false:=Bool.eq_false_iff.2 fun e=>hk ((VQ h k).2 e)
 refine ⟨List.find?_eq_none.2 fun e he=>?_,hh⟩
 have:=Qde hh e he
 simpa using this
def WrPost (B:Nat) (w:World) (gd gw gx gm:Nat) (D:DiskD) (x:Wri) (v:Value) (S:Nat→Prop) (w':World):Prop :=
  ∃ v' S',WrAll B w' gd gw gx gm D x v' S'∧(∀ k,S' k→S k∨w.heap.size≤k)∧(∀ k,v'.ownBlock=some k→v.ownBlock=some k∨w.heap.size≤k)∧Chg (fun k=>S k∨WrT gw gx gm v k) w w'
section
variable {B gd gw gx gm:Nat} {w:World} {D:DiskD} {x:Wri} {v:Value} {S:Nat→Prop}
theorem WrAll.lt (h:WrAll B w gd gw gx gm D x v S):∀ k,WrT gw gx gm v k→k<w.heap.size:=by
 obtain ⟨m,hM,_⟩:=h.scn.map;rintro k (rfl|rfl|rfl|e)
 ·exact h.blk.lt
 ·exact h.scn.blk.lt
 ·exact hM.lt
 ·exact X7 h.scn.row k e
theorem YQ (h:WrAll B w gd gw gx gm D x v S) (hl:x.l.length≤1000000) :
  Calls Tryz.prog 41 #[.pointer (some ⟨gw,0,none⟩)] w fun e w'=>∃ u,e=.returned (.agg #[u])∧EntsAt w' u (Jb x.l).1∧(∀ k,u.ownBlock=some k→w.heap.size≤k)∧Below w.heap.size w w':=by
 have hB:Blk w gw 81 #[.pointer (some ⟨gd,0,none⟩),.int .i64 x.n,.pointer (some ⟨gx,0,none⟩),.bool x.closed]:=h.blk;have hSn:=h.scn;have h32:=hSn.s32
 refine Qj (args:=[.pointer (some ⟨gw,0,none⟩)]) 11 fz41 Z Z Z<|Qt [(0,.pointer (some ⟨gw,0,none⟩))] ?_ ⟨Z,tvA⟩
 have bw:=Below.refl w.heap.size w
 refine Qa<|Jm inf101 Z (fun g2 w1 hB2 hg2 hb hl2=>?_)
 replace bw:=Ql bw hb;replace hB:=hB.bel hb;replace hSn:=hSn.bel hb;have zz1:=hb.size;clear hb
 refine Wn<|tN<|Qe<|Qa<|sm Z Z<|st (Qfx Z) Z<|Wn<|tN<|QX Z (Z)<|Qf<|tN<|Qa<|sm Z Z<|st (Qc Z) Z<|st (Qk H2 Z) Z<|st (Qi Z hB uz75 Z Z) Z<|sc _ Tryz.func90 Z Qo Z Z<|(HY gx gm v _ _ hSn hl).mono ?_
 rintro e_ w2 ⟨u,rfl,hE,hO,hb⟩;refine cR ?_;replace bw:=Ql bw hb;replace hB:=hB.bel hb;replace hSn:=hSn.bel hb;replace hB2:=hB2.bel hb;have zz2:=hb.size;clear hb
 obtain ⟨am,cm,rfl⟩:∃ am cm,u=.slice am (Jb x.l).1.length cm:=by obtain ⟨_,am,cm,e,_⟩:=hE; exact ⟨am,cm,e⟩
 refine QY Z Z hB2 siz101 Z (by simp [Value.oneCell']) (fun w3 bB cC=>?_);replace hE:=EntsAt.chgI hE (Q5 h32) hB2 cC;replace bw:=Ji bw cC Qb;replace hB2:=bB;clear bB cC hB hSn
 refine Wn<|tN<|Qg ?_
 exact (rC Z Z hB2 uz101 Z siz101 ⟨_,Z,hE,fun k hk=>by have:=hO k hk; omega,bw⟩).1
theorem wadd {w0:World} {X S1:Nat→Prop} {l:List Ent} {cs:Array Value} (n pos:Int) (a d:List UInt8) (hB:Blk w gw 81 cs) (hS:ScnAt w gx gm v ⟨l,0,false⟩) (hF:WrF B w gd gw gx gm D v S1) (hcw:Chg X w0 w) (hTX:∀ k,WrT gw gx gm v k→X k)
  (ha:a.length=32) (hn:Xy l a=false) (hl:l.length≤20000000) :
  Calls Tryz.prog 32 #[.pointer (some ⟨gx,0,none⟩),.int .i64 n,.int .i64 pos,.agg (a.map bv).toArray,Qv d] w (fun e' w'=>e'=.returned (.agg (Ent.mk a n pos d.length).cells.toArray) ∧
   ∃ v',Blk w' gw 81 cs∧ScnAt w' gx gm v' ⟨l++[⟨a,n,pos,d.length⟩],0,false⟩∧WrF B w' gd gw gx gm D v' S1∧(∀ k,v'.ownBlock=some k→v.ownBlock=some k∨w.heap.size≤k)∧Chg (fun k=>k=gx∨k=gm∨v.ownBlock=some k) w w'∧Chg X w0 w'∧w.heap.size≤w'.heap.size):=by
 refine (Qqc gx gm v ⟨l,0,false⟩ n pos a d w hS ha hn hl).mono ?_;rintro e w' ⟨v',rfl,h1,h2,h3⟩;have hlo:=hF.own.lo;obtain ⟨m,hM,_⟩:=hS.map
 have n1:gw≠gx:=by
  rintro rfl;have e1:w.heap[gw]?=_:=hB;have e2:w.heap[gw]?=_:=hS.blk;rw [e1] at e2;injection e2 with e2;injection e2 with _ e2;exact absurd e2 QF
 have n2:gw≠gm:=hB.neM hM
 have n3:¬v.ownBlock=some gw:=fun e=>hS.row.ne2 hB QF _ e rfl
 have hgB:=hF.gB;refine ⟨rfl,v',hB.chg h3 (by rintro (e|e|e); exact n1 e; exact n2 e; exact n3 e),h1,⟨hF.own.other h3 ?_,?_,Nat.le_trans hgB h3.size⟩,h2,h3,hcw.next h3 (fun i hi=>.inl (hTX i (.inr hi))),h3.size⟩
 ·rintro k (e|e|e) hs
  ·exact (hF.ap k (.inr (.inl e))).1 hs
  ·exact (hF.ap k (.inr (.inr (.inl e)))).1 hs
  ·exact (hF.ap k (.inr (.inr (.inr e)))).1 hs
 ·rintro k (e|e|e|e)
  ·exact hF.ap k<|.inl e
  ·exact hF.ap k<|.inr<|.inl e
  ·exact hF.ap k<|.inr<|.inr<|.inl e
  ·rcases h2 k e with e|e
   ·exact hF.ap k<|.inr<|.inr<|.inr e
   ·exact ⟨fun hs=>by have:=(hlo k hs).2; omega,by omega⟩
theorem Qcj (d:List UInt8) (N:Nat) (h:WrAll B w gd gw gx gm D x v S) (hg:Good N D) (hN:N≤1000000000) (hT:PTabs B w) (hd:d.length≤1099511627776) (hl:x.l.length≤1000000) :
  Calls Tryz.prog 12 #[.pointer (some ⟨gw,0,none⟩),Qv d] w (fun e w'=>e=.returned (.tuple #[.agg (QD D x d).1.1.cells.toArray,.int .i64 (QD D x d).1.2])∧WrPost B w gd gw gx gm (QD D x d).2.2 (QD D x d).2.1 v S w'):=by
 have hlt:=h.lt;have hB:Blk w gw 81 #[.pointer (some ⟨gd,0,none⟩),.int .i64 x.n,.pointer (some ⟨gx,0,none⟩),.bool x.closed]:=h.blk;have hSn:=h.scn;have hF:=h.wf;have h32:=hSn.s32;have hz:eZ.cells.toArray.size=35:=Ent.size (by simp [eZ])
 have hS1:∀ k,S k→S k∨w.heap.size≤k:=fun k hk=>.inl hk
 have hSlo:=hF.own.lo;have hsha:(sha d).length=32:=JD d;have hv1:gw<w.heap.size:=hlt _ (.inl rfl);have hv2:gx<w.heap.size:=hlt _ (.inr (.inl rfl));have hv3:gm<w.heap.size:=hlt _ (.inr (.inr (.inl rfl)))
 have hv4:∀ k,v.ownBlock=some k→k<w.heap.size:=fun k hk=>hlt _ (.inr (.inr (.inr hk)))
 have hB0:=hF.gB;have hRow:Row w 59 35 v x.l.length (x.l.flatMap Ent.cells):=hSn.row;obtain ⟨q,cq,rfl,hq1,hq2⟩:=hRow.shape;clear hRow;clear h;unfold QD
 refine Qj (args:=[.pointer (some ⟨gw,0,none⟩),Qv d]) 98 fz12 Z Z Z<|Qt [(0,.pointer (some ⟨gw,0,none⟩)),(1,Qv d)] ?_ ⟨Z,Z,tvA⟩
 have hcw:=Chg.refl (fun k=>S k∨WrT gw gx gm (Value.slice q x.l.length cq) k) w
 refine Qa<|Jm inf59 Z (fun g4 w1 hB4 hg4 hb hl4=>?_)
 replace hcw:=hcw.then_below hb;replace hB:=hB.bel hb;replace hSn:=hSn.bel hb;replace hF:=hF.bel hb;replace hT:=hT.bel hb;have zz1:=hb.size;clear hb
 refine sa Z Z<|Wn<|tN<|Qe<|Qp<|Qa<|sm Z Z<|st (Qfx Z) Z<|sa Z Z<|Wn<|tN<|QX Z (Z)<|Qa<|sm Z Z<|st (Qc Z) Z<|st (Qk Qnv Z) Z<|st (Qi Z hB uz4 Z Z) Z<|sb Z Z (fun h20=>?_) (fun h20=>?_)
 ·replace h20:=Qs h20
  refine gN Z Z Z Z<|gN Z Z Z Z<|st (Qm Z Z) Z<|sa Z Z<|Wn<|tN<|QO Z (Z)<|Qa<|st (Ja Z (benZ _)) Z<|QY Z Z hB4 (by rw [hz]; exact siz59) (by rw [hz]; rfl) (Ent.cells_one eZ) (fun w2 bB cC=>?_)
  replace hB4:=bB;replace hB:=hB.chg cC (by show ¬gw=g4; omega);replace hSn:=hSn.chg cC (by show ¬gx=g4; omega) (by show ¬gm=g4; omega) (fun k hk=>by show ¬k=g4; have:=hv4 k hk; omega);replace hF:=hF.chg cC (fun k hk=>by show ¬k=g4; have:=hSlo k hk; omega);replace hcw:=hcw.next cC (fun i hi=>.inr Qb);clear bB cC
  refine sa Z Z<|Wn<|tN<|Qg<|bR<|tR ?_
  rw [if_pos (.inl h20)];exact (KW Z Z hB4 uz59 Z (by rw [hz]; exact siz59) Z ⟨Z,_,S,⟨hB,hSn,hF⟩,hS1,fun k hk=>.inl hk,hcw⟩).1
 ·replace h20:=Qs h20
  refine gY Z Z Z<|sm Z Z<|gY Z Z Z<|st (KR Z Z) Z<|st (Qq Z Z) Z<|sa Z Z<|Wn<|tN<|Qx Z (fun h15=>?_) (fun h15=>?_)
  ·replace h15:=Qs h15
   refine Qa<|st (Ja Z (benZ _)) Z<|QY Z Z hB4 (by rw [hz]; exact siz59) (by rw [hz]; rfl) (Ent.cells_one eZ) (fun w3 bB cC=>?_)
   replace hB4:=bB;replace hB:=hB.chg cC (by show ¬gw=g4; omega);replace hSn:=hSn.chg cC (by show ¬gx=g4; omega) (by show ¬gm=g4; omega) (fun k hk=>by show ¬k=g4; have:=hv4 k hk; omega);replace hF:=hF.chg cC (fun k hk=>by show ¬k=g4; have:=hSlo k hk; omega);replace hcw:=hcw.next cC (fun i hi=>.inr Qb);clear bB cC
   refine sa Z Z<|Wn<|tN<|Qg<|bR<|tR ?_
   rw [if_pos (.inr h15)];exact (KW Z Z hB4 uz59 Z (by rw [hz]; exact siz59) Z ⟨Z,_,S,⟨hB,hSn,hF⟩,hS1,fun k hk=>.inl hk,hcw⟩).1
  ·replace h15:=Qs h15;rw [if_neg (by rintro (e|e); rw [h20] at e; cases e; exact h15 e)]
   refine Qa<|sm Z Z<|st (QP Z Z uz9) Z<|st (Jg Z Z) Z<|sa Z Z<|Wn<|tN<|Qx Z (fun h25=>?_) (fun h25=>?_)
   ·replace h25:=Qs h25;rw [if_pos Qb]
    refine Qa<|st (Ja Z (benZ _)) Z<|QY Z Z hB4 (by rw [hz]; exact siz59) (by rw [hz]; rfl) (Ent.cells_one eZ) (fun w4 bB cC=>?_)
    replace hB4:=bB;replace hB:=hB.chg cC (by show ¬gw=g4; omega);replace hSn:=hSn.chg cC (by show ¬gx=g4; omega) (by show ¬gm=g4; omega) (fun k hk=>by show ¬k=g4; have:=hv4 k hk; omega);replace hF:=hF.chg cC (fun k hk=>by show ¬k=g4; have:=hSlo k hk; omega);replace hcw:=hcw.next cC (fun i hi=>.inr Qb);clear bB cC
    refine sa Z Z<|Wn<|tN<|Qg<|bR<|tR ?_
    exact (KW Z Z hB4 uz59 Z (by rw [hz]; exact siz59) Z ⟨Z,_,S,⟨hB,hSn,hF⟩,hS1,fun k hk=>.inl hk,hcw⟩).1
   ·replace h25:=Qs h25;rw [if_neg Qb]
    refine Qf<|bN<|tN<|Qa<|sm Z Z<|sc _ fz14 Z Qo Z Z (Q3 (Hg d _ hT.sha Qb) fun w5 hb=>?_)
    replace hcw:=hcw.then_below hb;replace hB:=hB.bel hb;replace hSn:=hSn.bel hb;replace hF:=hF.bel hb;replace hT:=hT.bel hb;replace hB4:=hB4.bel hb;have zz5:=hb.size;clear hb;refine Jm inf57 Z (fun g6 w6 hB6 hg6 hb hl6=>?_);replace hcw:=hcw.then_below hb;replace hB:=hB.bel hb;replace hSn:=hSn.bel hb;replace hF:=hF.bel hb;replace hT:=hT.bel hb;replace hB4:=hB4.bel hb;have zz6:=hb.size;clear hb;refine QY Z Z hB6 (by rw [Jn hsha]; exact siz57) (by rw [Jn hsha]; rfl) (Vf _) (fun w7 bB cC=>?_);replace hB6:=bB;replace hB4:=hB4.chg cC (by show ¬g4=g6; omega);replace hB:=hB.chg cC (by show ¬gw=g6; omega);replace hSn:=hSn.chg cC (by show ¬gx=g6; omega) (by show ¬gm=g6; omega) (fun k hk=>by show ¬k=g6; have:=hv4 k hk; omega);replace hF:=hF.chg cC (fun k hk=>by show ¬k=g6; have:=hSlo k hk; omega);replace hT:=hT.chg cC (fun k hk=>by have h1:k=g6:=hk; omega);replace hcw:=hcw.next cC (fun i hi=>.inr Qb);have zz7:=cC.size;clear bB cC;obtain ⟨m,hM,hm⟩:=hSn.map
    refine Wn<|tN<|Qe<|QS (fun G=>Blk G gw 81 #[.pointer (some ⟨gd,0,none⟩),.int .i64 x.n,.pointer (some ⟨gx,0,none⟩),.bool x.closed]∧Blk G gx 79 #[.slice q x.l.length cq,.map (some gm),.int .i64 (0:Nat),.bool false]∧Blk G g6 57 ((sha d).map bv).toArray) [0,1,2,3,4,5,6,7,8,9,10,11,12,13] [Y,Y,Y,Y,Y,Y,Y,Y,false,Y,Y,Y,Y,Y] Qo Qo (⟨hB.drew,hSn.blk.drew,hB6.drew⟩) ?_
    obtain ⟨w8,hw_,hb⟩:=QN w7;rw [← hw_];clear hw_;have hS:=hb;replace hcw:=hcw.then_below hb;replace hB:=hB.bel hb;replace hSn:=hSn.bel hb;replace hF:=hF.bel hb;replace hT:=hT.bel hb;replace hB4:=hB4.bel hb;replace hB6:=hB6.bel hb;replace hM:=hM.bel hb;have zz8:=hb.size;clear hb
    refine oY Z (fun G U=>(Qd Z)) Z<|oY Z (fun G U=>(Qc Z)) Z<|oY Z (fun G U=>(Qk H2 Z)) Z<|oY Z (fun G U=>(Qi Z U.1 uz75 Z Z)) Z<|oY Z (fun G U=>(Qc Z)) Z<|oY Z (fun G U=>(Qk Qhn Z)) Z<|oY Z (fun G U=>(Qi Z U.2.1 uz76 Z Z)) Z<|oY Z (fun G U=>(QE Z U.2.2 uz57 Z (by rw [Jn hsha]; exact siz57))) Z ?_
    refine oL Z (fun Q_ hQ_ hP_=>(st (Qdz (z:=.int .i64 0) keySum Z ⟨sha d,hsha⟩ Z uz76 Qo hM) Z (Wn (hQ_ _ _ (⟨hB,hSn.blk,hB6⟩) ?_))));clear hQ_ hP_ Q_
    refine oY Z (fun G U=>(Qd Z)) Z<|oY Z (fun G U=>(Qu Z Z)) Z<|oY Z (fun G U=>(Qu Z Z)) Z<|oY Z (fun G U=>(Qy Z)) Z<|oY Z (fun G U=>(Qy Z)) Z<|oN<|nN<|Qa<|sm Z Z<|Wn<|tN<|Qx Z (fun h44=>?_) (fun h44=>?_)
    ·replace h44:=Qs h44;obtain ⟨i,hgi⟩:∃ i,mget m (⟨sha d,hsha⟩:Sum32)=some i:=Option.isSome_iff_exists.1 h44;obtain ⟨j,en,rfl,hj,hes,hfi⟩:=Qpt hm hM.nodup hgi;have hfi:Zf x.l (sha d)=some en:=hfi;have hen:en.sum.length=32:=h32 en (List.mem_of_getElem? hj);have hjl:j<x.l.length:=(List.getElem?_eq_some_iff.1 hj).1;rw [hfi,hgi];have hRr:=hSn.row.reads;obtain ⟨g1,o1,c',hvv,hg1⟩:=hRr.some_ (by show 0<x.l.length; omega);injection hvv with e1 _ e3;subst e1 e3;have hRg:=EntsAt.range (l:=x.l) hRr h32 hj;clear hRr
     refine Qa<|sm Z Z<|st (Qc Z) Z<|st (Qk H2 Z) Z<|st (Qi Z hB uz75 Z Z) Z<|st (Qc Z) Z<|st (Qk XB Z) Z<|st (Qi Z hSn.blk uz77 Z Z) Z<|sm Z Z<|st (QA Z Z uz77 siz59 Z hjl) Z<|st (Jw (cs:=en.cells) Z uz59 Z (by rw [Ent.cells_length hen]; exact siz59) hRg) Z ?_
     refine QY Z Z hB4 (by rw [Ent.size hen]; exact siz59) (by rw [Ent.size hen]; rfl) (Ent.cells_one en) (fun w9 bB cC=>?_);replace hB4:=bB;replace hB:=hB.chg cC (by show ¬gw=g4; omega);replace hSn:=hSn.chg cC (by show ¬gx=g4; omega) (by show ¬gm=g4; omega) (fun k hk=>by show ¬k=g4; have:=hv4 k hk; omega);replace hF:=hF.chg cC (fun k hk=>by show ¬k=g4; have:=hSlo k hk; omega);replace hcw:=hcw.next cC (fun i hi=>.inr Qb);clear bB cC
     refine sa Z Z<|Wn<|tN<|Qg<|tR ?_
     exact (KW Z Z hB4 uz59 Z (by rw [Ent.size hen]; exact siz59) Z ⟨Z,_,S,⟨hB,hSn,hF⟩,hS1,fun k hk=>.inl hk,hcw⟩).1
    ·replace h44:=Qs h44;obtain ⟨hfn,hhn⟩:=Qkt hm (k:=⟨sha d,hsha⟩) (by cases hg:mget m (⟨sha d,hsha⟩:Sum32) with|none=>rfl|some z=>rw [hg] at h44; simp at h44);have hfn:Zf x.l (sha d)=none:=hfn;have hhn:Xy x.l (sha d)=false:=hhn;rw [hfn]
     refine Qf<|tN<|QS (fun G=>Blk G gw 81 #[.pointer (some ⟨gd,0,none⟩),.int .i64 x.n,.pointer (some ⟨gx,0,none⟩),.bool x.closed]) [0,1,2,3,4,5,6,7,8,9,10,11,12,13,14] [Y,Y,Y,Y,Y,Y,Y,Y,false,false,Y,Y,Y,Y,Y] Qo Qo (hB.drew) ?_
     obtain ⟨w10,hw_,hb⟩:=QN w8;rw [← hw_];clear hw_;have hS:=hb;replace hcw:=hcw.then_below hb;replace hB:=hB.bel hb;replace hSn:=hSn.bel hb;replace hF:=hF.bel hb;replace hT:=hT.bel hb;replace hB4:=hB4.bel hb;replace hB6:=hB6.bel hb;replace hM:=hM.bel hb;have zz10:=hb.size;clear hb
     refine oY Z (fun G U=>(Qd Z)) Z<|oY Z (fun G U=>(Qc Z)) Z<|oY Z (fun G U=>(Qk Qhm Z)) Z<|oY Z (fun G U=>(Qi Z U uz23 Z Z)) Z<|oY Z (fun G U=>(Qd Z)) Z<|oY Z (fun G U=>(Qc Z)) Z<|oY Z (fun G U=>(Qk Qdi Z)) Z<|oY Z (fun G U=>(Qi Z U uz3 Z Z)) Z<|oL Z (fun Q_ hQ_ hP_=>(sc _ fz13 Z Qo Z Z (Q3 (Ua x.n _ hT.pow) fun w11 hb=>?_)))
     replace hcw:=hcw.then_below hb;replace hB:=hB.bel hb;replace hSn:=hSn.bel hb;replace hF:=hF.bel hb;replace hT:=hT.bel hb;replace hB4:=hB4.bel hb;replace hB6:=hB6.bel hb;replace hM:=hM.bel hb;have zz11:=hb.size;clear hb
     refine Wn<|hQ_ _ _ (hB) ?_
     clear hQ_ hP_ Q_;refine oL Z (fun Q_ hQ_ hP_=>(sc _ fz30 Z Qo Z Z (Q3 (Qlu gd D S (Qz x.n) _ hF.own.at_) fun w12 hb=>?_)));replace hcw:=hcw.then_below hb;replace hB:=hB.bel hb;replace hSn:=hSn.bel hb;replace hF:=hF.bel hb;replace hT:=hT.bel hb;replace hB4:=hB4.bel hb;replace hB6:=hB6.bel hb;replace hM:=hM.bel hb;have zz12:=hb.size;clear hb
     refine Wn<|hQ_ _ _ (hB) ?_
     clear hQ_ hP_ Q_
     refine oY Z (fun G U=>(Qd Z)) Z<|oY Z (fun G U=>(Qu Z Z)) Z<|oY Z (fun G U=>(Qu Z Z)) Z<|oY Z (fun G U=>(Qy Z)) Z<|oY Z (fun G U=>(Qy Z)) Z<|oN<|nN<|Qe<|Qa<|sm Z Z<|st (QL Z Z) Z<|Wn<|tN<|Qx Z (fun h69=>?_) (fun h69=>?_)
     ·replace h69:=Qs h69;rw [if_neg Qb];refine Qan (fun G=>Blk G gw 81 #[.pointer (some ⟨gd,0,none⟩),.int .i64 x.n,.pointer (some ⟨gx,0,none⟩),.bool x.closed]) [0,1,2,3,4,5,6,7,9,8,10,11,12] [Y,Y,Y,Y,Y,Y,Y,Y,Y,false,false,false,Y] Qo Qo (hB.drew) ?_;obtain ⟨w13,hw_,hb⟩:=QN w12;rw [← hw_];clear hw_;have hS:=hb;replace hcw:=hcw.then_below hb;replace hB:=hB.bel hb;replace hSn:=hSn.bel hb;replace hF:=hF.bel hb;replace hT:=hT.bel hb;replace hB4:=hB4.bel hb;replace hB6:=hB6.bel hb;replace hM:=hM.bel hb;have zz13:=hb.size;clear hb
      refine oY Z (fun G U=>(Qd Z)) Z<|oY Z (fun G U=>(Qc Z)) Z<|oY Z (fun G U=>(Qk Qhm Z)) Z<|oY Z (fun G U=>(Qi Z U uz23 Z Z)) Z<|oY Z (fun G U=>(Qd Z)) Z<|oY Z (fun G U=>(Qc Z)) Z<|oY Z (fun G U=>(Qk Qdi Z)) Z<|oY Z (fun G U=>(Qi Z U uz3 Z Z)) Z<|oY Z (fun G U=>(Qd Z)) Z<|oL Z (fun Q_ hQ_ hP_=>(sc _ fz13 Z Qo Z Z (Q3 (Ua x.n _ hT.pow) fun w14 hb=>?_)))
      replace hcw:=hcw.then_below hb;replace hB:=hB.bel hb;replace hSn:=hSn.bel hb;replace hF:=hF.bel hb;replace hT:=hT.bel hb;replace hB4:=hB4.bel hb;replace hB6:=hB6.bel hb;replace hM:=hM.bel hb;have zz14:=hb.size;clear hb
      refine Wn<|hQ_ _ _ (hB) ?_
      clear hQ_ hP_ Q_;refine oL Z (fun Q_ hQ_ hP_=>(sc _ Tryz.func31 Z Qo Z Z (Q3 (Qmn d _ hT.sha Qb) fun w15 hb=>?_)));replace hcw:=hcw.then_below hb;replace hB:=hB.bel hb;replace hSn:=hSn.bel hb;replace hF:=hF.bel hb;replace hT:=hT.bel hb;replace hB4:=hB4.bel hb;replace hB6:=hB6.bel hb;replace hM:=hM.bel hb;have zz15:=hb.size;clear hb
      refine Wn<|hQ_ _ _ (hB) ?_
      clear hQ_ hP_ Q_;refine oL Z (fun Q_ hQ_ hP_=>(sc _ fz26 Z Qo Z Z ((Qtn (U2 gd D _ (Qz x.n) (ZI d) _ hF.own.at_ hg.ok (hg.bud Qb) (by have:=Y4 d Qb; omega)) hB hSn hF hT hcw (fun k hk=>.inl hk) hS1).mono ?_)));clear hB hSn hF hT;rintro e_ w16 ⟨rfl,S1,hB,hSn,hF,hT,hS1,hX2,hcw,hz1_⟩
      refine cR<|Wn<|hQ_ _ _ (hB) ?_
      clear hQ_ hP_ Q_;replace hB4:=hB4.chg hX2.2 (fun e=>by have:=hSlo g4 e; omega);replace hB6:=hB6.chg hX2.2 (fun e=>by have:=hSlo g6 e; omega)
      have hS1x:∀ k,S1 k→k≠g4:=fun k hk e=>by rcases hX2.1 k hk with h|h; have:=hSlo k h; omega; omega
      obtain ⟨e1,D1,hap⟩:∃ e1 D1,QI D (Qz x.n) (ZI d)=(e1,D1):=⟨_,_,rfl⟩
      rw [hap] at hF ⊢;simp only at hF ⊢
      refine oY Z (fun G U=>(Qy Z)) Z<|oN<|nN<|tN<|Qe<|Qa<|sm Z Z<|st (QC Z Z) Z<|Wn<|tN<|Qx Z (fun h83=>?_) (fun h83=>?_)
      ·replace h83:=Qs h83;rw [if_pos h83]
       refine Qa<|st (Ja Z (benZ _)) Z<|sm Z Z<|QY Z Z hB4 (by rw [hz]; exact siz59) (by rw [hz]; rfl) (Ent.cells_one eZ) (fun w17 bB cC=>?_)
       replace hB4:=bB;replace hB:=hB.chg cC (by show ¬gw=g4; omega);replace hSn:=hSn.chg cC (by show ¬gx=g4; omega) (by show ¬gm=g4; omega) (fun k hk=>by show ¬k=g4; have:=hv4 k hk; omega);replace hF:=hF.chg cC (fun k hk=>by show ¬k=g4; have:=hS1x k hk; omega);replace hcw:=hcw.next cC (fun i hi=>.inr Qb);clear bB cC
       refine sa Z Z<|Wn<|tN<|Qg<|tR ?_
       exact (KW Z Z hB4 uz59 Z (by rw [hz]; exact siz59) Z ⟨Z,_,S1,⟨hB,hSn,hF⟩,hS1,fun k hk=>.inl hk,hcw⟩).1
      ·replace h83:=Qs h83;rw [if_neg h83]
       refine Qf<|tN<|QS (fun G=>Blk G gw 81 #[.pointer (some ⟨gd,0,none⟩),.int .i64 x.n,.pointer (some ⟨gx,0,none⟩),.bool x.closed]∧Blk G g6 57 ((sha d).map bv).toArray) [0,1,2,3,4,5,6,7,8,9,10,11,12,13] [Y,Y,Y,Y,Y,Y,Y,Y,Y,Y,Y,false,false,Y] Qo Qo (⟨hB.drew,hB6.drew⟩) ?_
       obtain ⟨w18,hw_,hb⟩:=QN w16;rw [← hw_];clear hw_;have hS:=hb;replace hcw:=hcw.then_below hb;replace hB:=hB.bel hb;replace hSn:=hSn.bel hb;replace hF:=hF.bel hb;replace hT:=hT.bel hb;replace hB4:=hB4.bel hb;replace hB6:=hB6.bel hb;have zz18:=hb.size;clear hb
       refine oY Z (fun G U=>(Qd Z)) Z<|oY Z (fun G U=>(Qc Z)) Z<|oY Z (fun G U=>(Qk H2 Z)) Z<|oY Z (fun G U=>(Qi Z U.1 uz75 Z Z)) Z<|oY Z (fun G U=>(Qd Z)) Z<|oY Z (fun G U=>(Qc Z)) Z<|oY Z (fun G U=>(Qk Qdi Z)) Z<|oY Z (fun G U=>(Qi Z U.1 uz3 Z Z)) Z<|oY Z (fun G U=>(Qd Z)) Z<|oY Z (fun G U=>(QE Z U.2 uz57 Z (by rw [Jn hsha]; exact siz57))) Z ?_
       refine oY Z (fun G U=>(Qd Z)) Z<|oL Z (fun Q_ hQ_ hP_=>(sc _ Tryz.func32 Z Qo Z Z ((wadd x.n (ZS D (Qz x.n)).1 (sha d) d hB hSn hF hcw (fun k hk=>.inr hk) hsha hhn Qb).mono ?_)))
       clear hB hSn hF;rintro e_ w19 ⟨rfl,v',hB,hSn,hF,hv',hC2,hcw,hz2_⟩
       refine cR<|Wn<|hQ_ _ _ (by first|exact ⟨hB,hB6⟩|exact ⟨hB,hB6.chg hC2 (by rintro (e|e|e); omega; omega; have:=hv4 _ e; omega)⟩) ?_
       clear hQ_ hP_ Q_;replace hB4:=hB4.chg hC2 (by rintro (e|e|e); omega; omega; have:=hv4 _ e; omega);replace hB6:=hB6.chg hC2 (by rintro (e|e|e); omega; omega; have:=hv4 _ e; omega)
       have hv5:∀ k,v'.ownBlock=some k→¬k=g4:=fun k hk e=>by rcases hv' k hk with h|h; have:=hv4 k h; omega; omega
       refine oL Z (fun Q_ hQ_ hP_=>(QY Z Z hB4 (by rw [Ent.size (e:=⟨sha d,x.n,(ZS D (Qz x.n)).1,d.length⟩) hsha]; exact siz59) (by rw [Ent.size (e:=⟨sha d,x.n,(ZS D (Qz x.n)).1,d.length⟩) hsha]; rfl) (Qib _) (fun w20 bB cC=>?_)));replace hB4:=bB;replace hB:=hB.chg cC (by show ¬gw=g4; omega);replace hSn:=hSn.chg cC (by show ¬gx=g4; omega) (by show ¬gm=g4; omega) (fun k hk=>hv5 k hk);replace hB6:=hB6.chg cC (by show ¬g6=g4; omega);replace hF:=hF.chg cC (fun k hk=>hS1x k hk);replace hcw:=hcw.next cC (fun i hi=>.inr Qb);clear bB cC
       refine Wn<|hQ_ _ _ (by first|exact ⟨hB,hB6⟩|exact ⟨hB,hB6.chg hC2 (by rintro (e|e|e); omega; omega; have:=hv4 _ e; omega)⟩) ?_
       clear hQ_ hP_ Q_
       refine oY Z (fun G U=>(Qy Z)) Z<|oN<|nN<|Qg<|(KW Z Z hB4 uz59 Z (by rw [Ent.size (e:=⟨sha d,x.n,(ZS D (Qz x.n)).1,d.length⟩) hsha]; exact siz59) Z ⟨Z,v',S1,⟨hB,hSn,hF⟩,hS1,fun k hk=>(hv' k hk).imp id (fun h=>by omega),hcw⟩).1
     ·replace h69:=Qs h69;rw [if_pos h69]
      refine Qf<|tN<|Qe<|Qa<|sm Z Z<|st (QC Z Z) Z<|Wn<|tN<|QO Z (decide_eq_true h69)<|Qa<|st (Ja Z (benZ _)) Z<|sm Z Z<|QY Z Z hB4 (by rw [hz]; exact siz59) (by rw [hz]; rfl) (Ent.cells_one eZ) (fun w21 bB cC=>?_)
      replace hB4:=bB;replace hB:=hB.chg cC (by show ¬gw=g4; omega);replace hSn:=hSn.chg cC (by show ¬gx=g4; omega) (by show ¬gm=g4; omega) (fun k hk=>by show ¬k=g4; have:=hv4 k hk; omega);replace hF:=hF.chg cC (fun k hk=>by show ¬k=g4; have:=hSlo k hk; omega);replace hcw:=hcw.next cC (fun i hi=>.inr Qb);clear bB cC
      refine sa Z Z<|Wn<|tN<|Qg<|tR ?_
      exact (KW Z Z hB4 uz59 Z (by rw [hz]; exact siz59) Z ⟨Z,_,S,⟨hB,hSn,hF⟩,hS1,fun k hk=>.inl hk,hcw⟩).1
end
end
section
open Go.RowKit Sha
def Qpc (B:Nat) (w:World) (gd gw gx gm:Nat) (r:(List Ent×Int)×Wri×DiskD) (v:Value) (S:Nat→Prop) (e:Ending) (w':World):Prop :=
  ∃ u v' S',e=.returned (.tuple #[.agg #[u],.int .i64 r.1.2])∧EntsAt w' u r.1.1∧(∀ k,u.ownBlock=some k→w.heap.size≤k∧¬S' k)∧WrAll B w' gd gw gx gm r.2.2 r.2.1 v' S'∧(∀ k,S' k→S k∨w.heap.size≤k)∧(∀ k,v'.ownBlock=some k→v.ownBlock=some k∨w.heap.size≤k)∧Chg (fun k=>S k∨WrT gw gx gm v k) w w'
section
variable {B gd gw gx gm:Nat} {w:World} {D:DiskD} {x:Wri} {v:Value} {S:Nat→Prop}
theorem Qmv (N:Nat) (h:WrAll B w gd gw gx gm D x v S) (hg:Good N D) (hN:N≤1000000000) (hT:PTabs B w) (hl:x.l.length≤1000000) :
  Calls Tryz.prog 44 #[.pointer (some ⟨gw,0,none⟩)] w (Qpc B w gd gw gx gm (Jc D x) v S):=by
 have hlt:=h.lt;have hB:Blk w gw 81 #[.pointer (some ⟨gd,0,none⟩),.int .i64 x.n,.pointer (some ⟨gx,0,none⟩),.bool x.closed]:=h.blk;have hSn:=h.scn;have hF:=h.wf;have h32:=hSn.s32
 have hS1:∀ k,S k→S k∨w.heap.size≤k:=fun k hk=>.inl hk
 have hSlo:=hF.own.lo;have hv1:gw<w.heap.size:=hlt _ (.inl rfl);have hv2:gx<w.heap.size:=hlt _ (.inr (.inl rfl));have hv3:gm<w.heap.size:=hlt _ (.inr (.inr (.inl rfl)))
 have hv4:∀ k,v.ownBlock=some k→k<w.heap.size:=fun k hk=>hlt _ (.inr (.inr (.inr hk)))
 have hB0:=hF.gB;have hg1:=JB hg (Qz x.n) (Zw x.l);have hfl:=XW x.l;have hRow:Row w 59 35 v x.l.length (x.l.flatMap Ent.cells):=hSn.row;obtain ⟨q,cq,rfl,hq1,hq2⟩:=hRow.shape;clear hRow h;unfold Jc
 refine Qj (args:=[.pointer (some ⟨gw,0,none⟩)]) 62 Tryz.func44 Z Z Z<|Qt [(0,.pointer (some ⟨gw,0,none⟩))] ?_ ⟨Z,tvA⟩
 have hcw:=Chg.refl (fun k=>S k∨WrT gw gx gm (Value.slice q x.l.length cq) k) w
 refine Qa<|Jm inf101 Z (fun g2 w1 hB2 hg2 hb hl2=>?_)
 replace hcw:=hcw.then_below hb;replace hB:=hB.bel hb;replace hSn:=hSn.bel hb;replace hF:=hF.bel hb;replace hT:=hT.bel hb;have zz1:=hb.size;clear hb
 refine sa Z Z<|Wn<|tN<|Qe<|Qp<|Qa<|sm Z Z<|st (Qfx Z) Z<|sa Z Z<|Wn<|tN<|QX Z (Z)<|Qa<|sm Z Z<|st (Qc Z) Z<|st (Qk Qnv Z) Z<|st (Qi Z hB uz4 Z Z) Z<|sa Z Z<|Wn<|tN<|Qx Z (fun h10=>?_) (fun h10=>?_)
 ·replace h10:=Qs h10;rw [if_pos h10]
  refine Qa<|st (Ja Z (Y6 _)) Z<|QY Z Z hB2 siz101 Z (by simp [Value.oneCell']) (fun w2 bB cC=>?_)
  replace hB2:=bB;replace hB:=hB.chg cC (by show ¬gw=g2; omega);replace hSn:=hSn.chg cC (by show ¬gx=g2; omega) (by show ¬gm=g2; omega) (fun k hk=>by show ¬k=g2; have:=hv4 k hk; omega);replace hF:=hF.chg cC (fun k hk=>by show ¬k=g2; have:=hSlo k hk; omega);replace hcw:=hcw.next cC (fun i hi=>.inr Qb);clear bB cC
  refine sa Z Z<|Wn<|tN<|Qg<|bR<|tR ?_
  exact (KW Z Z hB2 uz101 Z siz101 Z ⟨_,_,S,Z,EntsAt.nil _,fun k hk=>by simp [Value.ownBlock] at hk,⟨hB,hSn,hF⟩,hS1,fun k hk=>.inl hk,hcw⟩).1
 ·replace h10:=Qs h10;rw [if_neg (by rw [h10]; decide)]
  refine Qf<|bN<|tN<|Qe<|QS (fun G=>Blk G gw 81 #[.pointer (some ⟨gd,0,none⟩),.int .i64 x.n,.pointer (some ⟨gx,0,none⟩),.bool x.closed]∧Blk G gx 79 #[.slice q x.l.length cq,.map (some gm),.int .i64 (0:Nat),.bool false]) [0,1,2,3,4,5,6,7,9,10,11,12,13,14,15,16,8,17,18,19,20] [Y,Y,Y,Y,Y,Y,Y,Y,Y,Y,Y,Y,Y,Y,Y,Y,false,false,false,false,Y] Qo Qo (⟨hB.drew,hSn.blk.drew⟩) ?_
  obtain ⟨w3,hw_,hb⟩:=QN w1;rw [← hw_];clear hw_;have hS:=hb;replace hcw:=hcw.then_below hb;replace hB:=hB.bel hb;replace hSn:=hSn.bel hb;replace hF:=hF.bel hb;replace hT:=hT.bel hb;replace hB2:=hB2.bel hb;have zz3:=hb.size;clear hb
  refine oY Z (fun G U=>(Qd Z)) Z<|oY Z (fun G U=>(Qc Z)) Z<|oY Z (fun G U=>(Qk Qhm Z)) Z<|oY Z (fun G U=>(Qi Z U.1 uz23 Z Z)) Z<|oY Z (fun G U=>(Qd Z)) Z<|oY Z (fun G U=>(Qc Z)) Z<|oY Z (fun G U=>(Qk Qdi Z)) Z<|oY Z (fun G U=>(Qi Z U.1 uz3 Z Z)) Z<|oY Z (fun G U=>(Qd Z)) Z<|oY Z (fun G U=>(Qc Z)) Z<|oY Z (fun G U=>(Qk H2 Z)) Z<|oY Z (fun G U=>(Qi Z U.1 uz75 Z Z)) Z<|oY Z (fun G U=>(Qc Z)) Z<|oY Z (fun G U=>(Qk XB Z)) Z<|oY Z (fun G U=>(Qi Z U.2 uz77 Z Z)) Z<|oY Z (fun G U=>(QT Z Z uz77)) Z<|oL Z (fun Q_ hQ_ hP_=>(sc _ fz13 Z Qo Z Z (Q3 (Ua x.n _ hT.pow) fun w4 hb=>?_)))
  replace hcw:=hcw.then_below hb;replace hB:=hB.bel hb;replace hSn:=hSn.bel hb;replace hF:=hF.bel hb;replace hT:=hT.bel hb;replace hB2:=hB2.bel hb;have zz4:=hb.size;clear hb
  refine Wn<|hQ_ _ _ (⟨hB,hSn.blk⟩) ?_
  clear hQ_ hP_ Q_;refine oL Z (fun Q_ hQ_ hP_=>(sc _ fz28 Z Qo Z Z (Q3 (XR _ _) fun w5 hb=>?_)));replace hcw:=hcw.then_below hb;replace hB:=hB.bel hb;replace hSn:=hSn.bel hb;replace hF:=hF.bel hb;replace hT:=hT.bel hb;replace hB2:=hB2.bel hb;have zz5:=hb.size;clear hb
  refine Wn<|hQ_ _ _ (⟨hB,hSn.blk⟩) ?_
  clear hQ_ hP_ Q_;refine oL Z (fun Q_ hQ_ hP_=>(sc _ fz27 Z Qo Z Z (Q3 (Hc 3 (JR (x.l.length:Int)) _ (by rw [Q9]; omega)) fun w6 hb=>?_)));replace hcw:=hcw.then_below hb;replace hB:=hB.bel hb;replace hSn:=hSn.bel hb;replace hF:=hF.bel hb;replace hT:=hT.bel hb;replace hB2:=hB2.bel hb;have zz6:=hb.size;clear hb
  refine Wn<|hQ_ _ _ (⟨hB,hSn.blk⟩) ?_
  clear hQ_ hP_ Q_;refine oL Z (fun Q_ hQ_ hP_=>(sc _ fz26 Z Qo Z Z ((Qtn (U2 gd D _ (Qz x.n) (Zw x.l) _ hF.own.at_ hg.ok (hg.bud Qb) Qb) hB hSn hF hT hcw (fun k hk=>.inl hk) hS1).mono ?_)));clear hB hSn hF hT;rintro e_ w7 ⟨rfl,S1,hB,hSn,hF,hT,hS1,hX2,hcw,hz1_⟩
  refine cR<|Wn<|hQ_ _ _ (⟨hB,hSn.blk⟩) ?_
  clear hQ_ hP_ Q_;replace hB2:=hB2.chg hX2.2 (fun e=>by have:=hSlo g2 e; omega)
  have hS1x:∀ k,S1 k→k≠g2:=fun k hk e=>by rcases hX2.1 k hk with h|h; have:=hSlo k h; omega; omega
  clear hX2
  obtain ⟨e1,D1,hap⟩:∃ e1 D1,QI D (Qz x.n) (Zw x.l)=(e1,D1):=⟨_,_,rfl⟩
  rw [hap] at hF hg1 ⊢;simp only at hF hg1 ⊢
  refine oY Z (fun G U=>(Qy Z)) Z<|oN<|nN<|Qa<|sm Z Z<|st (QC Z Z) Z<|Wn<|tN<|Qx Z (fun h37=>?_) (fun h37=>?_)
  ·replace h37:=Qs h37;rw [if_pos h37]
   refine Qa<|st (Ja Z (Y6 _)) Z<|sm Z Z<|QY Z Z hB2 siz101 Z (by simp [Value.oneCell']) (fun w8 bB cC=>?_)
   replace hB2:=bB;replace hB:=hB.chg cC (by show ¬gw=g2; omega);replace hSn:=hSn.chg cC (by show ¬gx=g2; omega) (by show ¬gm=g2; omega) (fun k hk=>by show ¬k=g2; have:=hv4 k hk; omega);replace hF:=hF.chg cC (fun k hk=>hS1x k hk);replace hcw:=hcw.next cC (fun i hi=>.inr Qb);clear bB cC
   refine sa Z Z<|Wn<|tN<|Qg<|tR ?_
   exact (KW Z Z hB2 uz101 Z siz101 Z ⟨_,_,S1,Z,EntsAt.nil _,fun k hk=>by simp [Value.ownBlock] at hk,⟨hB,hSn,hF⟩,hS1,fun k hk=>.inl hk,hcw⟩).1
  ·replace h37:=Qs h37;rw [if_neg h37]
   refine Qf<|tN<|Qe<|QS (fun G=>Blk G gw 81 #[.pointer (some ⟨gd,0,none⟩),.int .i64 x.n,.pointer (some ⟨gx,0,none⟩),.bool x.closed]) [0,1,2,3,4,5,6,7,8,9,10] [Y,Y,Y,Y,Y,Y,Y,Y,false,false,Y] Qo Qo (hB.drew) ?_
   obtain ⟨w9,hw_,hb⟩:=QN w7;rw [← hw_];clear hw_;have hS:=hb;replace hcw:=hcw.then_below hb;replace hB:=hB.bel hb;replace hSn:=hSn.bel hb;replace hF:=hF.bel hb;replace hT:=hT.bel hb;replace hB2:=hB2.bel hb;have zz9:=hb.size;clear hb
   refine oY Z (fun G U=>(Qd Z)) Z<|oY Z (fun G U=>(Qc Z)) Z<|oY Z (fun G U=>(Qk Qhm Z)) Z<|oY Z (fun G U=>(Qi Z U uz23 Z Z)) Z<|oY Z (fun G U=>(Qd Z)) Z<|oY Z (fun G U=>(Qc Z)) Z<|oY Z (fun G U=>(Qk Qdi Z)) Z<|oY Z (fun G U=>(Qi Z U uz3 Z Z)) Z<|oL Z (fun Q_ hQ_ hP_=>(sc _ fz13 Z Qo Z Z (Q3 (Ua x.n _ hT.pow) fun w10 hb=>?_)))
   replace hcw:=hcw.then_below hb;replace hB:=hB.bel hb;replace hSn:=hSn.bel hb;replace hF:=hF.bel hb;replace hT:=hT.bel hb;replace hB2:=hB2.bel hb;have zz10:=hb.size;clear hb
   refine Wn<|hQ_ _ _ (hB) ?_
   clear hQ_ hP_ Q_;refine oL Z (fun Q_ hQ_ hP_=>(sc _ fz93 Z Qo Z Z ((Qtn (Qlt gd D1 _ (Qz x.n) _ hF.own.at_ hg1.ok) hB hSn hF hT hcw (fun k hk=>.inl hk) hS1).mono ?_)));clear hB hSn hF hT;rintro e_ w11 ⟨rfl,S2,hB,hSn,hF,hT,hS1,hX2,hcw,hz2_⟩
   refine cR<|Wn<|hQ_ _ _ (hB) ?_
   clear hQ_ hP_ Q_;replace hB2:=hB2.chg hX2.2 (fun e=>hS1x g2 e rfl)
   have hS2x:∀ k,S2 k→k≠g2:=fun k hk e=>by rcases hX2.1 k hk with h|h; exact hS1x k h e; omega
   clear hX2
   obtain ⟨e2,D2,hsy⟩:∃ e2 D2,Ku D1 (Qz x.n)=(e2,D2):=⟨_,_,rfl⟩
   rw [hsy] at hF ⊢;simp only at hF ⊢
   refine oY Z (fun G U=>(Qy Z)) Z<|oN<|nN<|Qa<|sm Z Z<|st (QC Z Z) Z<|Wn<|tN<|Qx Z (fun h51=>?_) (fun h51=>?_)
   ·replace h51:=Qs h51;rw [if_pos h51]
    refine Qa<|st (Ja Z (Y6 _)) Z<|sm Z Z<|QY Z Z hB2 siz101 Z (by simp [Value.oneCell']) (fun w12 bB cC=>?_)
    replace hB2:=bB;replace hB:=hB.chg cC (by show ¬gw=g2; omega);replace hSn:=hSn.chg cC (by show ¬gx=g2; omega) (by show ¬gm=g2; omega) (fun k hk=>by show ¬k=g2; have:=hv4 k hk; omega);replace hF:=hF.chg cC (fun k hk=>hS2x k hk);replace hcw:=hcw.next cC (fun i hi=>.inr Qb);clear bB cC
    refine sa Z Z<|Wn<|tN<|Qg<|tR ?_
    exact (KW Z Z hB2 uz101 Z siz101 Z ⟨_,_,S2,Z,EntsAt.nil _,fun k hk=>by simp [Value.ownBlock] at hk,⟨hB,hSn,hF⟩,hS1,fun k hk=>.inl hk,hcw⟩).1
   ·replace h51:=Qs h51;rw [if_neg h51]
    refine Qf<|tN<|Qa<|sm Z Z<|st (Qc Z) Z<|st (Qk Qnv Z) Z ?_
    have hap2:=hF.ap gw (.inl rfl)
    have hlM:gw≠gm:=by obtain ⟨m,hM,_⟩:=hSn.map; exact hB.neM hM
    have hlX:gx≠gw:=by
     rintro rfl;have e1:_=_:=hB;rw [show _=_ from hSn.blk] at e1;injection e1 with e1;injection e1 with _ e1;exact absurd e1 QF
    have hlV:∀ k,(Value.slice q x.l.length cq).ownBlock=some k→¬k=gw:=fun k hk e=>hSn.row.ne2 hB QF k hk e
    refine KL Z Z hB siz4 Z Q0 (fun w13 bB cC=>?_);replace hB:=bB;replace hB2:=hB2.chg cC (by show ¬g2=gw; omega);replace hSn:=hSn.chg cC (by show ¬gx=gw; exact hlX) (by show ¬gm=gw; exact fun e=>hlM e.symm) (fun k hk=>hlV k hk);replace hF:=hF.chg cC (fun k hk=>by show ¬k=gw; rintro rfl; exact hap2.1 hk);replace hT:=hT.chg cC (fun k hk=>by have h1:k=gw:=hk; have:=hap2.2; omega);replace hcw:=hcw.next cC (fun i hi=>.inl (.inr (.inl hi)));have zz13:=cC.size;clear bB cC
    refine Wn<|tN<|Qa<|sm Z Z<|st (Qc Z) Z<|st (Qk H2 Z) Z<|st (Qi Z hB uz75 Z Z) Z ?_
    have hlo2:=hF.own.lo
    refine sc _ Tryz.func90 Z Qo Z Z<|(HY gx gm _ _ _ hSn hl).mono ?_
    rintro e_ w14 ⟨u,rfl,hE,hO,hb⟩;refine cR ?_;replace hcw:=hcw.then_below hb;replace hB:=hB.bel hb;replace hSn:=hSn.bel hb;replace hF:=hF.bel hb;replace hT:=hT.bel hb;replace hB2:=hB2.bel hb;have zz14:=hb.size;clear hb
    obtain ⟨am,cm,rfl⟩:∃ am cm,u=.slice am (Jb x.l).1.length cm:=by obtain ⟨_,am,cm,e,_⟩:=hE; exact ⟨am,cm,e⟩
    refine QY Z Z hB2 siz101 Z (by simp [Value.oneCell']) (fun w15 bB cC=>?_);replace hE:=EntsAt.chgI hE (Q5 h32) hB2 cC;replace hB2:=bB;replace hB:=hB.chg cC (by show ¬gw=g2; omega);replace hSn:=hSn.chg cC (by show ¬gx=g2; omega) (by show ¬gm=g2; omega) (fun k hk=>by show ¬k=g2; have:=hv4 k hk; omega);replace hF:=hF.chg cC (fun k hk=>hS2x k hk);replace hcw:=hcw.next cC (fun i hi=>.inr Qb);clear bB cC
    refine sa Z Z<|Wn<|tN<|Qg<|(KW Z Z hB2 uz101 Z siz101 Z ⟨_,_,S2,Z,hE,fun k hk=>⟨by have:=hO k hk; omega,fun e=>by have:=hO k hk; have:=(hlo2 k e).2; omega⟩,⟨hB,hSn,hF⟩,hS1,fun k hk=>.inl hk,hcw⟩).1
end
end
end Go.Proofs.YtgiccohjijhfkaaGreatDoor
