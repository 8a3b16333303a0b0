/- Part 16. -/
import Derived.Laws.CopyRow
import Derived.Test.YtgiccohjijhfkaaGreatDoorPackPlaysP15
set_option maxRecDepth 100000
set_option maxHeartbeats 4000000
namespace Go.Proofs.YtgiccohjijhfkaaGreatDoor
section
open Go.RowKit Sha
section
variable (w:World)
theorem Qjx (d:List UInt8):Calls Tryz.prog 12 #[.pointer none,Qv d] w fun e w'=>e=.returned (.tuple #[.agg eZ.cells.toArray,.int .i64 2])∧Below w.heap.size w w':=by
 have hz:eZ.cells.toArray.size=35:=Ent.size (by simp [eZ])
 refine Qj (args:=[.pointer none,Qv d]) 98 fz12 Z Z Z<|Qt [(0,.pointer none),(1,Qv d)] ?_ ⟨Z,Z,tvA⟩
 have bw:=Below.refl w.heap.size w
 refine Qa<|Jm inf59 Z (fun g4 w1 hB4 hg4 hb hl4=>?_)
 replace bw:=Ql bw hb;have zz1:=hb.size;clear hb
 refine sa Z Z<|Wn<|tN<|Qe<|Qp<|Qa<|sm Z Z<|st (Qfx Z) Z<|sa Z Z<|Wn<|tN<|QO Z (Z)<|Qa<|st (Ja Z (benZ _)) Z<|QY Z Z hB4 (by rw [hz]; exact siz59) (by rw [hz]; rfl) (Ent.cells_one eZ) (fun w2 bB cC=>?_)
 replace hB4:=bB;replace bw:=Ji bw cC Qb
 refine sa Z Z<|Wn<|tN<|Qg<|bR<|tR ?_
 exact (KW Z Z hB4 uz59 Z (by rw [hz]; exact siz59) Z ⟨Z,bw⟩).1
theorem pclose_nil:Calls Tryz.prog 44 #[.pointer none] w fun e w'=>e=.returned (.tuple #[.agg #[.slice none 0 0],.int .i64 2])∧Below w.heap.size w w':=by
 refine Qj (args:=[.pointer none]) 62 Tryz.func44 Z Z Z<|Qt [(0,.pointer none)] ?_ ⟨Z,tvA⟩
 have bw:=Below.refl w.heap.size w
 refine Qa<|Jm inf101 Z (fun g2 w1 hB2 hg2 hb hl2=>?_)
 replace bw:=Ql bw hb;have zz1:=hb.size;clear hb
 refine sa Z Z<|Wn<|tN<|Qe<|Qp<|Qa<|sm Z Z<|st (Qfx Z) Z<|sa Z Z<|Wn<|tN<|QO Z (Z)<|Qa<|st (Ja Z (Y6 _)) Z<|QY Z Z hB2 siz101 Z Z (fun w2 bB cC=>?_)
 replace hB2:=bB;clear bB;replace bw:=Ji bw cC Qb;have zz2:=cC.size;clear cC
 refine sa Z Z<|Wn<|tN<|Qg<|bR<|tR ?_
 exact (KW Z Z hB2 uz101 Z siz101 Z ⟨Z,bw⟩).1
theorem Qum (a:List UInt8):Calls Tryz.prog 55 #[.pointer none,.agg (a.map bv).toArray] w fun e w'=>e=.returned (.tuple #[Qv [],.int .i64 2])∧Below w.heap.size w w':=by
 refine Qj (args:=[.pointer none,.agg (a.map bv).toArray]) 108 Tryz.func55 Z Z Z<|Qt [(0,.pointer none),(1,.agg (a.map bv).toArray)] ?_ ⟨Z,Z,tvA⟩
 have bw:=Below.refl w.heap.size w
 refine Qa<|J1 Z Z (fun g3 w1 hB3 hg3 hb hl3=>?_)
 replace bw:=Ql bw hb;have zz1:=hb.size;clear hb
 refine sa Z Z<|sa Z Z<|Wn<|tN<|Qe<|Qa<|sm Z Z<|st (Qfy Z) Z<|Wn<|tN<|QO Z (Z)<|Qa<|sa Z Z<|sa Z Z<|Wn<|tN<|Qg<|tR ?_
 exact (J6 Z Z Z ⟨Z,bw⟩).1
end
def abcB:List UInt8:=[97,98,99]
theorem abc_ok:DOkC abcB:=⟨by decide,by decide⟩
theorem name7:Qz 7=[112,97,99,107,45,48,48,48,48,48,55]:=by decide
def ent7:Ent:=⟨sha abcB,7,((JX 7).length:Int),3⟩
theorem ent7_sum:ent7.sum.length=32:=JD _
theorem aw_begin:(Q2 (YC 5000) 7).1=0∧WrAt1 5000 7 [] (Q2 (YC 5000) 7).2 ⟨7,[],false⟩:=⟨(Qak rfl Qb).1,WrAt1.begin rfl Qb⟩
theorem aw_add:(QD (Q2 (YC 5000) 7).2 ⟨7,[],false⟩ abcB).1=(ent7,0)∧WrAt1 5000 7 [abcB] (QD (Q2 (YC 5000) 7).2 ⟨7,[],false⟩ abcB).2.2 (QD (Q2 (YC 5000) 7).2 ⟨7,[],false⟩ abcB).2.1:=by
 have hl:=YN 7;obtain ⟨h1,h2⟩:=aw_begin.2.add (d:=abcB) Q0 abc_ok (by simp [Z8]; omega)
 have e:(⟨sha abcB,7,(((JX 7).length+(Z8 []).length:Nat):Int),(abcB.length:Nat)⟩:Ent)=ent7:=by
  unfold ent7;rw [show (Z8 []).length=0 from rfl,Nat.add_zero,show ((abcB.length:Nat):Int)=3 from rfl]
 rw [e] at h1;rw [List.nil_append] at h2;refine ⟨h1,?_⟩;exact h2
theorem Qwd {D:DiskD} {x:Wri} (h:WrAt1 5000 7 [abcB] D x):QD D x abcB=((ent7,16),x,D):=by
 obtain ⟨e,h1,h2,h3⟩:=h.there (d:=abcB) Q0 abc_ok;rw [h.l] at h1
 have:Zf (U7 7 (JX 7).length [abcB]) (sha abcB)=some ent7:=by
  have e:U7 7 (JX 7).length [abcB]=[ent7]:=by
   unfold ent7
   rfl
  rw [e];unfold Zf
  exact List.find?_cons_of_pos<|decide_eq_true Z
 rw [this] at h1;rw [h3,← Option.some.inj h1]
theorem Qvf (n:Int):0<(JX n).length:=by
 unfold JX;have h4:(JR n).length=4:=Q9 n;rw [ZT QF Qb,h4]
 omega
end
section
open Go.RowKit Sha
theorem WrAll.lts {B gd gw gx gm:Nat} {w:World} {D:DiskD} {x:Wri} {v:Value} {S:Nat→Prop} (h:WrAll B w gd gw gx gm D x v S):∀ k,S k∨WrT gw gx gm v k→k<w.heap.size:=fun k hk=>hk.elim (fun e=>(h.wf.own.lo k e).2) (fun e=>h.lt k e)
theorem WrAll.lo {B gd gw gx gm:Nat} {w:World} {D:DiskD} {x:Wri} {v:Value} {S:Nat→Prop} (h:WrAll B w gd gw gx gm D x v S):∀ k,S k∨WrT gw gx gm v k→B≤k:=fun k hk=>hk.elim (fun e=>(h.wf.own.lo k e).1) (fun e=>(h.wf.ap k e).2)
theorem WrAll.chg {B gd gw gx gm:Nat} {w w':World} {D:DiskD} {x:Wri} {v:Value} {S T:Nat→Prop} (h:WrAll B w gd gw gx gm D x v S) (hC:Chg T w w') (hn:∀ k,S k∨WrT gw gx gm v k→¬T k):WrAll B w' gd gw gx gm D x v S :=
 ⟨h.blk.chg hC (hn _ (.inr (.inl rfl))),h.scn.chg hC (hn _ (.inr (.inr (.inl rfl)))) (hn _ (.inr (.inr (.inr (.inl rfl))))) (fun _ hk=>hn _ (.inr (.inr (.inr (.inr hk))))),h.wf.chg hC (fun k hk=>hn k (.inl hk))⟩
theorem WrPost.keep {B gd gw gx gm:Nat} {w0 w w':World} {D D':DiskD} {x x':Wri} {v:Value} {S:Nat→Prop} (h:WrPost B w gd gw gx gm D' x' v S w') (hW:WrAll B w gd gw gx gm D x v S) (hb:Below w0.heap.size w0 w) (hB:w0.heap.size≤B) :
  ∃ v' S',WrAll B w' gd gw gx gm D' x' v' S'∧Below w0.heap.size w0 w'∧(∀ k,S' k→S k∨w.heap.size≤k)∧(∀ k,WrT gw gx gm v' k→WrT gw gx gm v k∨w.heap.size≤k)∧Chg (fun k=>S k∨WrT gw gx gm v k) w w'∧w.heap.size≤w'.heap.size:=by
 obtain ⟨v',S',h1,h2,h3,h4⟩:=h;refine ⟨v',S',h1,bchg hb h4 ?_,h2,?_,h4,h4.size⟩
 ·rintro k (hk|hk)
  ·have:=(hW.wf.own.lo k hk).1; omega
  ·have:=(hW.wf.ap k hk).2; omega
 ·rintro k (e|e|e|e)
  ·exact .inl<|.inl e
  ·exact .inl<|.inr<|.inl e
  ·exact .inl<|.inr<|.inr<|.inl e
  ·exact (h3 k e).imp (fun h=>.inr (.inr (.inr h))) id
theorem UU (w:World) (hT:PTabs w.heap.size w):Calls Tryz.prog 7 #[] w fun e w'=>e=.returned (.bool true)∧Below w.heap.size w w':=by
 have hz:ent7.cells.toArray.size=35:=Ent.size ent7_sum;have hone:ent7.cells.toArray.toList.all (·.oneCell')=true:=Ent.cells_one ent7;refine Qj (args:=[]) 69 fz7 Z Z Z ?_;have bw:=Below.refl w.heap.size w
 refine Qa<|sa Z Z<|Wn<|tN<|Qa<|sc _ fz4 Z Qo Z Z<|(Qxg 5000 _ Qb).mono ?_
 rintro e_ w1 ⟨g,S0,rfl,h0,hS0,hb⟩;refine cR ?_;replace bw:=Ql bw hb;replace hT:=hT.bel hb;have zz1:=hb.size;clear hb
 have hd:Own w.heap.size w1 g (YC 5000) S0:=⟨h0,fun k hk=>by have:=hS0 k hk; have:=bw.size; omega⟩
 clear h0 hS0
 refine sm Z Z<|st (Qu Z Z) Z<|st (Qu Z Z) Z<|sa Z Z<|sa Z Z<|Wn<|tN<|Qa<|sm Z Z<|sc _ Tryz.func11 Z Qo Z Z<|(Qci w.heap.size g (YC 5000) S0 7 0 _ hd (Good.new Qb) Qb bw.size hT).mono ?_
 rintro e_ w2 ⟨p,S1,rfl,hd1,hS1,hX,hpn,hps⟩;refine cR ?_;obtain ⟨gw,gx,gm,v,rfl,hW,hWo⟩:=hps aw_begin.1;have bq:=bchg bw hX (fun k hk=>(hd.lo k hk).1);replace hT:=hT.chg hX (fun k hk=>(hd.lo k hk).1);rw [aw_begin.1];clear hps hpn hWo hd1 hd bw hX;have bw:=bq;clear bq;have haw:=aw_add;have hg1:=Qad (Good.new (n:=0) (l:=5000) Qb) 7
 obtain ⟨D1,hD1⟩:∃ D1,(Q2 (YC 5000) 7).2=D1:=⟨_,rfl⟩
 rw [hD1] at hW haw hg1
 refine sm Z Z<|st (Qu Z Z) Z<|st (Qu Z Z) Z<|sa Z Z<|sa Z Z<|Wn<|tN<|Qe<|Qa<|sm Z Z<|st (QC Z Z) Z<|sbN Z (Z) Z<|gY Z Z Z<|sm Z Z<|gY Z Z Z<|st (QC Z Z) Z<|st (Qq Z Z) Z<|sbN Z (Z) Z<|gY Z Z Z<|sm Z Z<|gY Z Z Z<|st (Qfx Z) Z<|st (Qq Z Z) Z<|Wn<|tN<|QX Z (Z)<|Qf<|tN<|Qa<|sm Z Z<|sc _ fz12 Z Qo Z Z<|(Qcj abcB 30 hW hg1 Qb hT QF Q0).mono ?_
 rintro e_ w3 ⟨rfl,hWP⟩;refine cR ?_
 have hloT:∀ k,S1 k∨WrT gw gx gm v k→w.heap.size≤k:=fun k hk=>hk.elim (fun h=>(hW.wf.own.lo k h).1) (fun h=>(hW.wf.ap k h).2)
 obtain ⟨v2,S2,hW2,bq,hS2,hv2,hX2,hz5⟩:=hWP.keep hW bw (Nat.le_refl _);replace hT:=hT.chg hX2 hloT;clear hWP hW bw hX2 hloT;have hW:=hW2;have bw:=bq;clear hW2 bq;have hg2:=Qfc hg1 ⟨7,[],false⟩ abcB;rw [haw.1]
 obtain ⟨r,hr⟩:∃ r,QD D1 ⟨7,[],false⟩ abcB=r:=⟨_,rfl⟩
 rw [hr] at hW haw hg2;have hag:=Qwd haw.2
 refine sm Z Z<|st (Qu Z Z) Z<|st (Qu Z Z) Z ?_
 have hq5:=hW.lts;have hw5:=bw.size;refine Jm inf59 Z (fun g5 w4 hB5 hg5 hb hl5=>?_);replace bw:=Ql bw hb;replace hT:=hT.bel hb;replace hW:=hW.bel hb;have zz4:=hb.size;clear hb;refine QY Z Z hB5 (by rw [hz]; exact siz59) (by rw [hz]; rfl) hone (fun w5 bB cC=>?_);replace hB5:=bB;replace hW:=hW.chg cC (fun k hk=>by show ¬k=g5; have:=hq5 k hk; omega);replace hT:=hT.chg cC (fun k hk=>by have h1:k=g5:=hk; have:=bw.size; omega);replace bw:=Ji bw cC Qb;have zz5:=cC.size;clear bB cC
 refine sa Z Z<|Wn<|tN<|Qa<|sm Z Z ?_
 have hn5:¬(S2 g5∨WrT gw gx gm v2 g5):=fun e=>by have:=hq5 _ e; omega
 refine sc _ fz12 Z Qo Z Z<|(Qcj abcB 1130 hW hg2 Qb hT QF (by rw [haw.2.l]; simp [U7])).mono ?_
 rintro e_ w6 ⟨rfl,hWP⟩;refine cR ?_;have hloT:=hW.lo;obtain ⟨v3,S3,hW3,bq,hS3,hv3,hX2,hz6⟩:=hWP.keep hW bw (Nat.le_refl _);replace hT:=hT.chg hX2 hloT;replace hB5:=hB5.chg hX2 hn5;clear hWP hW bw hX2 hloT;have bw:=bq;clear hW3 bq;rw [hag]
 refine sm Z Z<|st (Qu Z Z) Z<|st (Qu Z Z) Z<|Jm inf59 Z (fun g7 w7 hB7 hg7 hb hl7=>?_)
 replace bw:=Ql bw hb;replace hT:=hT.bel hb;replace hB5:=hB5.bel hb;have zz7:=hb.size;clear hb;refine QY Z Z hB7 (by rw [hz]; exact siz59) (by rw [hz]; rfl) hone (fun w8 bB cC=>?_);replace hB7:=bB;replace hB5:=hB5.chg cC (by show ¬g5=g7; omega);replace hT:=hT.chg cC (fun k hk=>by have h1:k=g7:=hk; have:=bw.size; omega);replace bw:=Ji bw cC Qb;have zz8:=cC.size;clear bB cC
 refine sa Z Z<|Wn<|tN<|QS (fun G=>Blk G g5 59 ent7.cells.toArray∧Blk G g7 59 ent7.cells.toArray) [0,1,2,3,4,5,6,7,8,9,10,11,12,13,14,15,16,17,18,19,20,21,22,23,24,25,26,27,28,29,30,31] [false,Y,Y,Y,Y,Y,Y,Y,Y,Y,Y,Y,Y,Y,Y,Y,Y,Y,Y,false,Y,Y,Y,Y,Y,Y,Y,Y,Y,Y,Y,Y] Qo Qo (⟨hB5.drew,hB7.drew⟩) ?_
 obtain ⟨w9,hw_,hb⟩:=QN w8;rw [← hw_];clear hw_;have hS:=hb;replace bw:=Ql bw hb;replace hT:=hT.bel hb;replace hB5:=hB5.bel hb;replace hB7:=hB7.bel hb;have zz9:=hb.size;clear hb;refine oL Z (fun Q_ hQ_ hP_=>(sc _ fz13 Z Qo Z Z (Q3 (Ua 7 _ hT.pow) fun w10 hb=>?_)));replace bw:=Ql bw hb;replace hT:=hT.bel hb;replace hB5:=hB5.bel hb;replace hB7:=hB7.bel hb;have zz10:=hb.size;clear hb
 refine Wn<|hQ_ _ _ (⟨hB5,hB7⟩) ?_
 clear hQ_ hP_ Q_;rw [name7]
 refine oY Z (fun G U=>(KR Z Z)) Z<|oY Z (fun G U=>(Jf (c:=true) Z (Z))) Z<|Q4 Z Z Z Z (fun G U=>(Qd Z)) Z<|Q4 Z Z Z Z (fun G U=>(QL Z Z)) Z<|oY Z (fun G U=>(Qm Z Z)) Z<|oY Z (fun G U=>(Jf (c:=true) Z (Z))) Z<|Q4 Z Z Z Z (fun G U=>(Qk Vv Z)) Z<|Q4 Z Z Z Z (fun G U=>(Z0 Z U.1 uz3 Z (Ent.cell_ ent7_sum 2 _ Z))) Z<|Q4 Z Z Z Z (fun G U=>(QL Z Z)) Z<|oY Z (fun G U=>(Qm Z Z)) Z<|oY Z (fun G U=>(Jf (c:=true) Z (Z))) Z<|Q4 Z Z Z Z (fun G U=>(Qk H4 Z)) Z<|Q4 Z Z Z Z (fun G U=>(Z0 Z U.1 uz3 Z (Ent.cell_ ent7_sum 1 _ Z))) Z<|Q4 Z Z Z Z (fun G U=>(Jg Z Z)) Z<|oY Z (fun G U=>(Qm Z Z)) Z<|oY Z (fun G U=>(Jf (c:=true) Z (decide_eq_true (by show (0:Int)<((JX 7).length:Int); have:=Qvf 7; omega)))) Z ?_
 refine Q4 Z Z Z Z (fun G U=>(Qk Y0 Z)) Z<|Q4 Z Z Z Z (fun G U=>(Jw (cs:=ent7.sum.map bv) Z uz57 Z (by rw [List.length_map,ent7_sum]; exact siz57) (Qvp U.1))) Z ?_
 refine oL Z (fun Q_ hQ_ hP_=>(gY Z Z Z (sc _ fz14 Z Qo Z Z (Q3 (Hg abcB _ hT.sha QF) fun w11 hb=>?_))));replace bw:=Ql bw hb;replace hT:=hT.bel hb;replace hB5:=hB5.bel hb;replace hB7:=hB7.bel hb;have zz11:=hb.size;clear hb
 refine Wn<|hQ_ _ _ (⟨hB5,hB7⟩) ?_
 clear hQ_ hP_ Q_
 refine Q4 Z Z Z Z (fun G U=>(Qea ent7_sum (JD _) Z Z)) Z<|oY Z (fun G U=>(Qm Z Z)) Z<|oY Z (fun G U=>(Jf (c:=true) Z ((beq_self_eq_true (sha abcB))))) Z<|Q4 Z Z Z Z (fun G U=>(Qd Z)) Z<|Q4 Z Z Z Z (fun G U=>(QL Z Z)) Z<|oY Z (fun G U=>(Qm Z Z)) Z<|oY Z (fun G U=>(Jf (c:=true) Z (Z))) Z<|Q4 Z Z Z Z (fun G U=>(QE Z U.2 uz59 Z (by rw [hz]; exact siz59))) Z ?_
 refine Q4 Z Z Z Z (fun G U=>(QE Z U.1 uz59 Z (by rw [hz]; exact siz59))) Z ?_
 refine Q4 Z Z Z Z (fun G U=>(Qqi ent7_sum ent7_sum Z Z)) Z<|oY Z (fun G U=>(Qm Z Z)) Z<|oY Z (fun G U=>(Qy Z)) Z<|oN<|nN<|Qg ?_
 exact (rT Z Z ⟨by rw [decide_eq_true Z],bw⟩).1
end
section
open Go.RowKit Sha
section
variable {P:Program} {N:Nat} {Q:Post} {l:Env} {w:World} {ops:Array Oper} {rest:List Oper} {x y:Operand} {ty t:TypeId} {pos:String} {aft:Array Edge} {g o:Nat}
theorem ssBO {ds:List Deferred} {bt:TypeId} {old cells:Array Value} (new:Array Value) (hx:ev l x=some (.pointer (some ⟨g,o,none⟩))) (hy:ev l y=some (.agg cells)) (hB:Blk w g bt old) (hi:(P.info? t).map (·.size)=some cells.size) (hs:o+cells.size≤old.size) (h1:cells.toList.all (·.oneCell')=true)
  (hn:(old.toList.take o++cells.toList++old.toList.drop (o+cells.size)).toArray=new)
  (h:∀ w',Blk w' g bt new→Chg (fun k=>k=g) w w'→WL P N ds ops Q rest l w'):WL P N ds ops Q (⟨none,.store t x y,ty,pos,aft,none⟩::rest) l w:=by
 subst hn
 have hst:(storeVar t ⟨g,o,none⟩ (.agg cells)).run P w=.ok () (w.setRow g (old.toList.take o++cells.toList++old.toList.drop (o+cells.size)).toArray):=by
  have:=run_storeCells_at (P:=P) g o bt cells.toList 0 old w hB (by simpa using hs) (fun v hv=>List.all_eq_true.1 h1 v hv)
  cases hq:P.info? t with
  | none=>simp [hq] at hi
  | some i =>
   have hz:cells.size=i.size:=by simp [hq] at hi; omega
   simp only [Nat.add_zero,Array.length_toList] at this;simp [storeVar,sizeOf,typeInfo,hq,Value.cells,hz,this]
 exact ss (w':=w.setRow g _) (fun ρ hρ=>by
  unfold execOp
  simp only [hρ _ _ hx,hρ _ _ hy,Instr.storeAt,Instr.sureAddr,Sem.run_bind,Sem.run_pure,Result.andThen_ok,hst])
  (h _ (setRow_heap _ _ _ _ _ _ hB) ((Chg.refl (fun k=>k=g) w).setRow (.inl rfl) _))
theorem Blk.mid {bt:TypeId} {cs:Array Value} {o:Nat} {l:List Value} (hB:Blk w g bt cs) (h:(cs.toList.drop o).take l.length=l):w.rangeAt g o l:=fun j v hj=>by
 rw [hB.cell,← Array.getElem?_toList];rw [← h,List.getElem?_take] at hj
 split at hj
 ·rw [List.getElem?_drop] at hj;exact hj
 ·cases hj
end
theorem eZ32:eZ.sum.length=32:=by simp [eZ]
theorem XY (a b:Ent) (e:Int) (w:World) (ha:a.sum.length=32):Calls Tryz.prog 39 #[.agg a.cells.toArray,.agg (Jh b).toArray,.int .i64 e] w fun e' w'=>e'=.returned (.bool (if e≠0∧e≠16 then decide (a=eZ) else decide (a=b)))∧Below w.heap.size w w':=by
 have hza:a.cells.toArray.size=35:=Ent.size ha
 refine Qj (args:=[.agg a.cells.toArray,.agg (Jh b).toArray,.int .i64 e]) 21 fz39 Z Z Z<|Qt [(0,.agg a.cells.toArray),(1,.agg (Jh b).toArray),(2,.int .i64 e)] ?_ ⟨Z,Z,Z,tvA⟩
 have bw:=Below.refl w.heap.size w
 refine Qa<|J1 Z Z (fun g3 w1 hB3 hg3 hb hl3=>?_)
 replace bw:=Ql bw hb;have zz1:=hb.size;clear hb;refine J1 Z Z (fun g4 w2 hB4 hg4 hb hl4=>?_);replace bw:=Ql bw hb;replace hB3:=hB3.bel hb;have zz2:=hb.size;clear hb
 refine sa Z Z<|Wn<|tN<|Qe<|Qa<|sm Z Z<|st (QC Z Z) Z<|sb Z Z (fun h9=>?_) (fun h9=>?_)
 ·replace h9:=Qs h9
  refine gY Z Z Z<|sm Z Z<|gY Z Z Z<|st (QC Z Z) Z<|st (Qm Z Z) Z<|Wn<|tN<|Qx Z (fun h12=>?_) (fun h12=>?_)
  ·replace h12:=Qs h12
   refine Qa<|st (QE Z hB3 uz59 Z (by rw [hza]; exact siz59)) Z ?_
   refine st (Ja Z (benZ _)) Z<|st (Qqi ha eZ32 Z Z) Z<|sa Z Z<|Wn<|tN<|Qg<|tR ?_
   rw [if_pos ⟨h9,h12⟩];exact (rT Z Z ⟨Z,bw⟩).1
  ·replace h12:=Qs h12
   refine Qf<|tN<|Qa<|st (QE Z hB3 uz59 Z (by rw [hza]; exact siz59)) Z ?_
   refine Zy Z uz77 inf59 (by show a.cells.toArray.size=35; exact hza) Z QF QF Z (fun g17 w3 hR17 hg17 hb=>?_);replace bw:=Ql bw hb;replace hB4:=hB4.bel hb;have hz17:=hb.size;clear hb
   refine st (QE Z hB4 uz95 Z siz95) Z<|Zy Z uz35 inf95 Z Z QF QF Z (fun g19 w4 hR19 hg19 hb=>?_)
   replace bw:=Ql bw hb;replace hR17:=hR17.bel hb;have hz19:=hb.size;clear hb
   have hEa:EntsAt w4 (.slice (some ⟨g17,0,none⟩) 1 1) [a]:=by have:=hR17.reads; simpa [EntsAt,Value.cells] using this
   have hRb:REnts w4 (.slice (some ⟨g19,0,none⟩) 1 1) [b]:=by have:=hR19.reads; simpa [REnts,Value.cells] using this
   clear hR17 hR19;refine sc _ fz40 Z Qo Z Z (Q3 (JN _ _ [a] [b] _ hEa (fun q hq=>by rw [List.mem_singleton.1 hq]; exact ha) Q0 hRb) fun w5 hb=>?_);replace bw:=Ql bw hb;have zz5:=hb.size;clear hb
   refine sa Z Z<|Wn<|tN<|Qg<|(rT Z Z ⟨?_,bw⟩).1
   rw [if_neg (by first|exact fun h=>h12 h.2|exact fun h=>h9 h.1)]
   simp
 ·replace h9:=Qs h9
  refine gN Z Z Z Z<|gN Z Z Z Z<|st (Qq Z Z) Z<|Wn<|tN<|QX Z (Z)<|Qf<|tN<|Qa<|st (QE Z hB3 uz59 Z (by rw [hza]; exact siz59)) Z ?_
  refine Zy Z uz77 inf59 (by show a.cells.toArray.size=35; exact hza) Z QF QF Z (fun g17 w6 hR17 hg17 hb=>?_);replace bw:=Ql bw hb;replace hB4:=hB4.bel hb;have hz17:=hb.size;clear hb
  refine st (QE Z hB4 uz95 Z siz95) Z<|Zy Z uz35 inf95 Z Z QF QF Z (fun g19 w7 hR19 hg19 hb=>?_)
  replace bw:=Ql bw hb;replace hR17:=hR17.bel hb;have hz19:=hb.size;clear hb
  have hEa:EntsAt w7 (.slice (some ⟨g17,0,none⟩) 1 1) [a]:=by have:=hR17.reads; simpa [EntsAt,Value.cells] using this
  have hRb:REnts w7 (.slice (some ⟨g19,0,none⟩) 1 1) [b]:=by have:=hR19.reads; simpa [REnts,Value.cells] using this
  clear hR17 hR19;refine sc _ fz40 Z Qo Z Z (Q3 (JN _ _ [a] [b] _ hEa (fun q hq=>by rw [List.mem_singleton.1 hq]; exact ha) Q0 hRb) fun w8 hb=>?_);replace bw:=Ql bw hb;have zz8:=hb.size;clear hb
  refine sa Z Z<|Wn<|tN<|Qg<|(rT Z Z ⟨?_,bw⟩).1
  rw [if_neg (by first|exact fun h=>h12 h.2|exact fun h=>h9 h.1)]
  simp
def WM (q B:Nat) (w:World) (gd:Nat) (col:Nat→Nat) (pw:Option Addr):Option Wri→Prop
  | none=>pw=none
  | some x=>∃ gw gx gm v,pw=some ⟨gw,0,none⟩∧Blk w gw 81 (Qje gd gx x)∧ScnAt w gx gm v ⟨x.l,0,false⟩∧(∀ k,WrT gw gx gm v k→col k=3∧B≤k∧k<q)
def VM (q B:Nat) (w:World) (col:Nat→Nat) (is:Bool) (n:Int) (uL:Value) (cl:Bool):Option Wri→Prop
  | none=>is=false∧uL.oneCell'=true
  | some x=>is=true∧n=x.n∧cl=x.closed∧Row w 95 4 uL x.l.length (x.l.flatMap Jh)∧(∀ k,uL.ownBlock=some k→col k=4∧B≤k∧k<q)
def PM (q B:Nat) (w:World) (gd:Nat) (col:Nat→Nat) (pp:Option Addr) (po:Bool) (pn:Int) (fL:Value) (fg:Int) (fw:Bool):Option (Int×Scn)→Prop
  | none=>pp=none∧po=false
  | some p=>∃ gp gx gm v,pp=some ⟨gp,0,none⟩∧po=true∧pn=p.1∧fg=(p.2.good:Nat)∧fw=p.2.whole∧PakAt w gd gp gx gm v p.1 p.2∧EOk p.2.l∧p.2.l.length≤441505∧(∀ k,(k=gp∨k=gx∨k=gm∨v.ownBlock=some k)→col k=5∧B≤k∧k<q)∧REnts w fL p.2.l∧(0<p.2.l.length→∀ k,fL.ownBlock=some k→col k=5∧B≤k∧k<q)
section
variable {q q' B gd:Nat} {w w':World} {col col':Nat→Nat} {pw pp:Option Addr} {is cl po fw:Bool} {n pn fg:Int} {uL fL:Value} {W V:Option Wri} {P:Option (Int×Scn)} {T:Nat→Prop}
theorem WM.chg (h:WM q B w gd col pw W) (hc:Chg T w w') (hT:∀ k,T k→k<q→col k≠3):WM q B w' gd col pw W:=by
 cases W with
 | none=>exact h
 | some x =>
  obtain ⟨gw,gx,gm,v,h1,h5,h6,h7⟩:=h
  have n3:∀ k,WrT gw gx gm v k→¬T k:=fun k hk e=>(hT k e (h7 k hk).2.2) (h7 k hk).1
  exact ⟨gw,gx,gm,v,h1,h5.chg hc (n3 _ (.inl Z)),h6.chg hc (n3 _ (.inr (.inl Z))) (n3 _ (.inr (.inr (.inl Z)))) (fun k hk=>n3 _ (.inr (.inr (.inr hk)))),h7⟩
theorem VM.chg (h:VM q B w col is n uL cl V) (hc:Chg T w w') (hT:∀ k,T k→k<q→col k≠4):VM q B w' col is n uL cl V:=by
 cases V with
 | none=>exact h
 | some x =>
  obtain ⟨h1,h2,h3,h8,h9⟩:=h;exact ⟨h1,h2,h3,h8.chg hc (fun k hk e=>(hT k e (h9 k hk).2.2) (h9 k hk).1),h9⟩
theorem PM.chg (h:PM q B w gd col pp po pn fL fg fw P) (hc:Chg T w w') (hT:∀ k,T k→k<q→col k≠5):PM q B w' gd col pp po pn fL fg fw P:=by
 cases P with
 | none=>exact h
 | some p =>
  obtain ⟨gp,gx,gm,v,h1,h2,h3,h4,h5,h6,h7,h8,h9,h10,h11⟩:=h
  have n5:∀ k,(k=gp∨k=gx∨k=gm∨v.ownBlock=some k)→¬T k:=fun k hk e=>hT k e (h9 k hk).2.2 (h9 k hk).1
  exact ⟨gp,gx,gm,v,h1,h2,h3,h4,h5,h6.chg hc (n5 _ (.inl Z)) (n5 _ (.inr (.inl Z))) (n5 _ (.inr (.inr (.inl Z)))) (fun k hk=>n5 _ (.inr (.inr (.inr hk)))),h7,h8,h9,Reads.chgS h10 hc (fun h0 k hk e=>hT k e (h11 h0 k hk).2.2 (h11 h0 k hk).1),h11⟩
theorem WM.bel (h:WM q B w gd col pw W) (hb:Below w.heap.size w w'):WM q B w' gd col pw W:=h.chg (Chg.of_below hb (fun _=>False)) (fun _ e=>e.elim)
theorem WM.re (h:WM q B w gd col pw W) (hc:∀ k,k<q→col' k=col k) (hq:q≤q'):WM q' B w gd col' pw W:=by
 cases W with
 | none=>exact h
 | some x =>
  obtain ⟨gw,gx,gm,v,h1,h5,h6,h7⟩:=h;exact ⟨gw,gx,gm,v,h1,h5,h6,fun k hk=>by obtain ⟨a,b,c⟩:=h7 k hk; exact ⟨(hc k c).trans a,b,Nat.lt_of_lt_of_le c hq⟩⟩
theorem VM.re (h:VM q B w col is n uL cl V) (hc:∀ k,k<q→col' k=col k) (hq:q≤q'):VM q' B w col' is n uL cl V:=by
 cases V with
 | none=>exact h
 | some x =>
  obtain ⟨h1,h2,h3,h8,h9⟩:=h;exact ⟨h1,h2,h3,h8,fun k hk=>by obtain ⟨a,b,c⟩:=h9 k hk; exact ⟨(hc k c).trans a,b,Nat.lt_of_lt_of_le c hq⟩⟩
theorem PM.re (h:PM q B w gd col pp po pn fL fg fw P) (hc:∀ k,k<q→col' k=col k) (hq:q≤q'):PM q' B w gd col' pp po pn fL fg fw P:=by
 cases P with
 | none=>exact h
 | some p =>
  obtain ⟨gp,gx,gm,v,h1,h2,h3,h4,h5,h6,h7,h8,h9,h10,h11⟩:=h;exact ⟨gp,gx,gm,v,h1,h2,h3,h4,h5,h6,h7,h8,fun k hk=>by obtain ⟨a,b,c⟩:=h9 k hk; exact ⟨(hc k c).trans a,b,Nat.lt_of_lt_of_le c hq⟩,h10,fun h0 k hk=>by obtain ⟨a,b,c⟩:=h11 h0 k hk; exact ⟨(hc k c).trans a,b,Nat.lt_of_lt_of_le c hq⟩⟩
end
structure PS (q B:Nat) (w:World) (gs gd gr:Nat) (D E:DiskD) (W V:Option Wri) (P:Option (Int×Scn)) (pw pp:Option Addr) (is:Bool) (n:Int) (uL:Value) (cl:Bool) (fL:Value) (fg:Int) (fw:Bool) (pn:Int) (po:Bool) (col:Nat→Nat):Prop where
  blk:Blk w gs 41 (ZW gd gr pw pp is n uL cl fL fg fw pn po)
  cs:col gs=6∧B≤gs∧gs<q
  own:∃ S,Own B w gd D S∧∀ k,S k→col k=1∧k<q
  rown:∃ R,ROwn B w gr E R∧∀ k,R k→col k=2∧k<q
  wr:WM q B w gd col pw W
  vr:VM q B w col is n uL cl V
  pk:PM q B w gd col pp po pn fL fg fw P
  fl:fL.oneCell'=true
  hq:q≤w.heap.size
  hB:B≤q
noncomputable def tint (q r:Nat) (col:Nat→Nat) (S:Nat→Prop) (a b:Nat):Nat→Nat:=open Classical in fun k=>if k<q then col k else if k<r then 0 else if S k then a else b
section
variable {q B gs gd gr:Nat} {w w':World} {D D' E E':DiskD} {W V:Option Wri} {P:Option (Int×Scn)} {pw pp:Option Addr} {is cl po fw:Bool} {n pn fg:Int} {uL fL:Value} {col:Nat→Nat} {S S' R R' T:Nat→Prop} {a b k:Nat}
theorem Yf {r:Nat} (h:k<q):tint q r col S a b k=col k:=by unfold tint; rw [if_pos h]
theorem Qbe {r:Nat} (h:¬k<q) (hr:¬k<r) (hS:S k):tint q r col S a b k=a:=by unfold tint; rw [if_neg h,if_neg hr,if_pos hS]
theorem Xj {r:Nat} (h:¬k<q) (hr:¬k<r) (hS:¬S k):tint q r col S a b k=b:=by unfold tint; rw [if_neg h,if_neg hr,if_neg hS]
theorem VC {r g:Nat} (h:q≤g∨col g=0) (hr:g<r):tint q r col S a b g=0:=by
 by_cases hq:g<q
 ·rw [Yf hq];exact h.elim (fun e=>by omega) id
 ·unfold tint;rw [if_neg hq,if_pos hr]
theorem PS.loc (h:PS q B w gs gd gr D E W V P pw pp is n uL cl fL fg fw pn po col) (hc:Chg T w w') (hT:∀ k,T k→q≤k∨col k=0):PS q B w' gs gd gr D E W V P pw pp is n uL cl fL fg fw pn po col:=by
 obtain ⟨h1,h2,⟨S,h3,h3'⟩,⟨R,h4,h4'⟩,h5,hv,h6,hf,h7,h8⟩:=h
 have hT2:∀ {c:Nat},c≠0→∀ k,T k→k<q→col k≠c:=fun hc k hk hl e=>(hT k hk).elim (fun f=>by omega) (fun f=>hc (e.symm.trans f))
 exact ⟨h1.chg hc (fun e=>hT2 QF _ e h2.2.2 h2.1),h2,⟨S,h3.other hc (fun k hk e=>hT2 QF k hk (h3' k e).2 (h3' k e).1),h3'⟩,⟨R,h4.other hc (fun k hk e=>hT2 QF k hk (h4' k e).2 (h4' k e).1),h4'⟩,
  h5.chg hc (hT2 QF),hv.chg hc (hT2 QF),h6.chg hc (hT2 QF),hf,Nat.le_trans h7 hc.size,h8⟩
theorem WM.loc (h:WM q B w gd col pw W) (hc:Chg T w w') (hT:∀ k,T k→q≤k∨col k=0):WM q B w' gd col pw W:=h.chg hc (fun k hk hl e=>(hT k hk).elim (fun f=>by omega) (fun f=>by rw [f] at e; cases e))
theorem PS.bel (h:PS q B w gs gd gr D E W V P pw pp is n uL cl fL fg fw pn po col) (hb:Below w.heap.size w w'):PS q B w' gs gd gr D E W V P pw pp is n uL cl fL fg fw pn po col :=
 h.loc (Chg.of_below hb (fun _=>False)) (fun _ e=>e.elim)
theorem PS.core (h:PS q B w gs gd gr D E W V P pw pp is n uL cl fL fg fw pn po col) (hc:Chg T w w') {col':Nat→Nat} (hcol:∀ k,k<q→col' k=col k)
  (h6:∀ k,T k→k<q→col k≠6) (hd:∃ S,Own B w' gd D' S∧∀ k,S k→col' k=1∧k<w'.heap.size) (hr:∃ R,ROwn B w' gr E' R∧∀ k,R k→col' k=2∧k<w'.heap.size)
  (hW:WM w'.heap.size B w' gd col' pw W) (hV:VM w'.heap.size B w' col' is n uL cl V) (h5:∀ k,T k→k<q→col k≠5):PS w'.heap.size B w' gs gd gr D' E' W V P pw pp is n uL cl fL fg fw pn po col':=by
 have hz:=hc.size;have hq:=h.hq;exact ⟨h.blk.chg hc (fun e=>h6 _ e h.cs.2.2 h.cs.1),⟨(hcol _ h.cs.2.2).trans h.cs.1,h.cs.2.1,by have:=h.cs.2.2; omega⟩,hd,hr,hW,hV,(h.pk.chg hc h5).re hcol Qb,h.fl,Nat.le_refl _,by have:=h.hB; omega⟩
theorem PS.disk (b:Nat) (h:PS q B w gs gd gr D E W V P pw pp is n uL cl fL fg fw pn po col) (hSc:∀ k,S k→col k=1∧k<q) (hc:Chg S w w') (hd:Own B w' gd D' S') (hS':∀ k,S' k→S k∨w.heap.size≤k) :
  PS w'.heap.size B w' gs gd gr D' E W V P pw pp is n uL cl fL fg fw pn po (tint q w.heap.size col S' 1 b):=by
 have hz:=hc.size;have hq:=h.hq
 have ho:∀ k,k<q→tint q w.heap.size col S' 1 b k=col k:=fun k hk=>Yf hk
 obtain ⟨R,h4,h4'⟩:=h.rown;refine h.core hc ho (fun k hk _=>by have:=(hSc k hk).1; omega) ⟨S',hd,fun k hk=>⟨?_,(hd.lo k hk).2⟩⟩ ⟨R,h4.other hc (fun k hk e=>by have:=(hSc k hk).1; have:=(h4' k e).1; omega),fun k hk=>⟨(ho k (h4' k hk).2).trans (h4' k hk).1,by have:=(h4' k hk).2; omega⟩⟩
  ((h.wr.chg hc (fun k hk _=>by have:=(hSc k hk).1; omega)).re ho Qb) ((h.vr.chg hc (fun k hk _=>by have:=(hSc k hk).1; omega)).re ho Qb) (fun k hk _=>by have:=(hSc k hk).1; omega)
 by_cases hk2:k<q
 ·rw [ho k hk2];exact (hS' k hk).elim (fun e=>(hSc k e).1) (fun e=>by omega)
 ·exact Qbe hk2 (fun h5=>(hS' k hk).elim (fun e=>hk2 (hSc k e).2) (fun e=>by omega)) hk
theorem PS.rdisk (b:Nat) (h:PS q B w gs gd gr D E W V P pw pp is n uL cl fL fg fw pn po col) (hRc:∀ k,R k→col k=2∧k<q) (hc:Chg R w w') (hd:ROwn B w' gr E' R') (hR':∀ k,R' k→R k∨w.heap.size≤k) :
  PS w'.heap.size B w' gs gd gr D E' W V P pw pp is n uL cl fL fg fw pn po (tint q w.heap.size col R' 2 b):=by
 have hz:=hc.size;have hq:=h.hq
 have ho:∀ k,k<q→tint q w.heap.size col R' 2 b k=col k:=fun k hk=>Yf hk
 obtain ⟨S,h3,h3'⟩:=h.own;refine h.core hc ho (fun k hk _=>by have:=(hRc k hk).1; omega) ⟨S,h3.other hc (fun k hk e=>by have:=(hRc k hk).1; have:=(h3' k e).1; omega),fun k hk=>⟨(ho k (h3' k hk).2).trans (h3' k hk).1,by have:=(h3' k hk).2; omega⟩⟩ ⟨R',hd,fun k hk=>⟨?_,(hd.lo k hk).2⟩⟩
  ((h.wr.chg hc (fun k hk _=>by have:=(hRc k hk).1; omega)).re ho Qb) ((h.vr.chg hc (fun k hk _=>by have:=(hRc k hk).1; omega)).re ho Qb) (fun k hk _=>by have:=(hRc k hk).1; omega)
 by_cases hk2:k<q
 ·rw [ho k hk2];exact (hR' k hk).elim (fun e=>(hRc k e).1) (fun e=>by omega)
 ·exact Qbe hk2 (fun h5=>(hR' k hk).elim (fun e=>hk2 (hRc k e).2) (fun e=>by omega)) hk
theorem PS.rec_ (h:PS q B w gs gd gr D E W V P pw pp is n uL cl fL fg fw pn po col) (hc:Chg (fun k=>k=gs) w w') {pw2 pp2:Option Addr} {is2 cl2 po2 fw2:Bool} {n2 pn2 fg2:Int} {uL2 fL2:Value} (hB:Blk w' gs 41 (ZW gd gr pw2 pp2 is2 n2 uL2 cl2 fL2 fg2 fw2 pn2 po2)) {W2 V2:Option Wri} {P2:Option (Int×Scn)}
  (hW:WM q B w' gd col pw2 W2) (hV:VM q B w' col is2 n2 uL2 cl2 V2) (hP:PM q B w' gd col pp2 po2 pn2 fL2 fg2 fw2 P2) (hf:fL2.oneCell'=true):PS q B w' gs gd gr D E W2 V2 P2 pw2 pp2 is2 n2 uL2 cl2 fL2 fg2 fw2 pn2 po2 col:=by
 obtain ⟨h1,h2,⟨S,h3,h3'⟩,⟨R,h4,h4'⟩,h5,hv,h6,hf',h7,h8⟩:=h;exact ⟨hB,h2,⟨S,h3.other hc (fun k hk e=>by have h1:k=gs:=hk; subst h1; have:=(h3' _ e).1; omega),h3'⟩,⟨R,h4.other hc (fun k hk e=>by have h1:k=gs:=hk; subst h1; have:=(h4' _ e).1; omega),h4'⟩,hW,hV,hP,hf,Nat.le_trans h7 hc.size,h8⟩
theorem PS.gsc (h:PS q B w gs gd gr D E W V P pw pp is n uL cl fL fg fw pn po col) {c:Nat} (hc:c≠6):∀ k,k=gs→k<q→col k≠c:=fun k hk _=>by subst hk; rw [h.cs.1]; exact fun e=>hc e.symm
theorem PS.wrS (h:PS q B w gs gd gr D E W V P pw pp is n uL cl fL fg fw pn po col) (hc:Chg (fun k=>k=gs) w w'):WM q B w' gd col pw W:=h.wr.chg hc (h.gsc QF)
theorem PS.vrS (h:PS q B w gs gd gr D E W V P pw pp is n uL cl fL fg fw pn po col) (hc:Chg (fun k=>k=gs) w w'):VM q B w' col is n uL cl V:=h.vr.chg hc (h.gsc QF)
theorem PS.pkS (h:PS q B w gs gd gr D E W V P pw pp is n uL cl fL fg fw pn po col) (hc:Chg (fun k=>k=gs) w w'):PM q B w' gd col pp po pn fL fg fw P:=h.pk.chg hc (h.gsc QF)
theorem PS.all {x:Wri} (h:PS q B w gs gd gr D E (some x) V P pw pp is n uL cl fL fg fw pn po col):∃ gw gx gm v S,pw=some ⟨gw,0,none⟩∧WrAll B w gd gw gx gm D x v S∧(∀ k,S k→col k=1∧k<q)∧(∀ k,WrT gw gx gm v k→col k=3∧B≤k∧k<q):=by
 obtain ⟨h1,h2,⟨S,h3,h3'⟩,⟨R,h4,h4'⟩,⟨gw,gx,gm,v,w1,w5,w6,w7⟩,hv,h6,hf,h7,h8⟩:=h;exact ⟨gw,gx,gm,v,S,w1,⟨w5,w6,⟨h3,fun k hk=>⟨fun e=>by have:=(w7 k hk).1; have:=(h3' k e).1; omega,(w7 k hk).2.1⟩,Nat.le_trans h8 h7⟩⟩,h3',w7⟩
theorem PS.wri {x x':Wri} {gw gx gm:Nat} {v v':Value} (h:PS q B w gs gd gr D E (some x) V P (some ⟨gw,0,none⟩) pp is n uL cl fL fg fw pn po col) (hSc:∀ k,S k→col k=1∧k<q) (hTc:∀ k,WrT gw gx gm v k→col k=3∧B≤k∧k<q)
  (h1:WrAll B w' gd gw gx gm D' x' v' S') (h2:∀ k,S' k→S k∨w.heap.size≤k) (h3:∀ k,v'.ownBlock=some k→v.ownBlock=some k∨w.heap.size≤k) (h4:Chg (fun k=>S k∨WrT gw gx gm v k) w w') :
  PS w'.heap.size B w' gs gd gr D' E (some x') V P (some ⟨gw,0,none⟩) pp is n uL cl fL fg fw pn po (tint q w.heap.size col S' 1 3):=by
 have hz:=h4.size;have hq:=h.hq
 have ho:∀ k,k<q→tint q w.heap.size col S' 1 3 k=col k:=fun k hk=>Yf hk
 have hTT:∀ k,(S k∨WrT gw gx gm v k)→col k=1∨col k=3:=fun k hk=>hk.imp (fun e=>(hSc k e).1) (fun e=>(hTc k e).1)
 have hlt:=h1.lt;obtain ⟨R,r4,r4'⟩:=h.rown
 have hc:∀ {c:Nat},c≠1→c≠3→∀ k,(S k∨WrT gw gx gm v k)→k<q→col k≠c:=fun h1 h3 k hk _ e=>by rcases hTT k hk with f|f; exact h1 (e.symm.trans f); exact h3 (e.symm.trans f)
 refine ⟨h.blk.chg h4 (fun e=>hc QF QF _ e h.cs.2.2 h.cs.1),⟨(ho _ h.cs.2.2).trans h.cs.1,h.cs.2.1,by have:=h.cs.2.2; omega⟩,⟨S',h1.wf.own,fun k hk=>⟨?_,(h1.wf.own.lo k hk).2⟩⟩,⟨R,r4.other h4 (fun k hk e=>hc QF QF k hk (r4' k e).2 (r4' k e).1),fun k hk=>⟨(ho k (r4' k hk).2).trans (r4' k hk).1,by have:=(r4' k hk).2; omega⟩⟩,
  ⟨gw,gx,gm,v',rfl,h1.blk,h1.scn,fun k hk=>⟨?_,(h1.wf.ap k hk).2,hlt k hk⟩⟩,(h.vr.chg h4 (hc QF QF)).re ho Qb,(h.pk.chg h4 (hc QF QF)).re ho Qb,h.fl,Nat.le_refl _,by have:=h.hB; omega⟩
 ·by_cases hk2:k<q
  ·rw [ho k hk2];exact (h2 k hk).elim (fun e=>(hSc k e).1) (fun e=>by omega)
  ·exact Qbe hk2 (fun h5=>(h2 k hk).elim (fun e=>hk2 (hSc k e).2) (fun e=>by omega)) hk
 ·by_cases hk2:k<q
  ·rw [ho k hk2]
   rcases hk with e|e|e|e
   ·exact (hTc k (.inl e)).1
   ·exact (hTc k (.inr (.inl e))).1
   ·exact (hTc k (.inr (.inr (.inl e)))).1
   ·exact (h3 k e).elim (fun e=>(hTc k (.inr (.inr (.inr e)))).1) (fun e=>by omega)
  ·refine Xj hk2 (fun h5=>?_) (h1.wf.ap k hk).1
   rcases hk with e|e|e|e
   ·exact hk2 (hTc k (.inl e)).2.2
   ·exact hk2 (hTc k (.inr (.inl e))).2.2
   ·exact hk2 (hTc k (.inr (.inr (.inl e)))).2.2
   ·exact (h3 k e).elim (fun e=>hk2 (hTc k (.inr (.inr (.inr e)))).2.2) (fun e=>by omega)
theorem PS.rwl {y y':Wri} (h:PS q B w gs gd gr D E W (some y) P pw pp is n uL cl fL fg fw pn po col) (hRc:∀ k,R k→col k=2∧k<q)
  (hl:Qef B w gs gd gr R pw pp uL fL fg pn fw po y' E' w'):∃ uL' R',PS w'.heap.size B w' gs gd gr D E' W (some y') P pw pp true y'.n uL' y'.closed fL fg fw pn po (tint q w.heap.size col R' 2 4):=by
 obtain ⟨uL',R',l1,l2,l3,l4,l5,l6,l7⟩:=hl;obtain ⟨v1,v2,v3,v8,v9⟩:=h.vr;have hz:=l7.size;have hq:=h.hq
 have ho:∀ k,k<q→tint q w.heap.size col R' 2 4 k=col k:=fun k hk=>Yf hk
 have hc:∀ {c:Nat},c≠2→c≠4→c≠6→∀ k,(R k∨k=gs∨uL.ownBlock=some k)→k<q→col k≠c:=fun h2 h4 h6 k hk _ e=>by
  rcases hk with f|f|f
  ·exact h2<|e.symm.trans (hRc k f).1
  ·subst f; exact h6 (e.symm.trans h.cs.1)
  ·exact h4<|e.symm.trans (v9 k f).1
 obtain ⟨S,s3,s3'⟩:=h.own;have hlt:=X7 l2
 refine ⟨uL',R',l1,⟨(ho _ h.cs.2.2).trans h.cs.1,h.cs.2.1,by have:=h.cs.2.2; omega⟩,⟨S,s3.other l7 (fun k hk e=>hc QF QF QF k hk (s3' k e).2 (s3' k e).1),fun k hk=>⟨(ho k (s3' k hk).2).trans (s3' k hk).1,by have:=(s3' k hk).2; omega⟩⟩,⟨R',l3,fun k hk=>⟨?_,(l3.lo k hk).2⟩⟩,
  (h.wr.chg l7 (hc QF QF QF)).re ho Qb,⟨rfl,rfl,rfl,l2,fun k hk=>⟨?_,?_,hlt k hk⟩⟩,(h.pk.chg l7 (hc QF QF QF)).re ho Qb,h.fl,Nat.le_refl _,by have:=h.hB; omega⟩
 ·by_cases hk2:k<q
  ·rw [ho k hk2];exact (l4 k hk).elim (fun e=>(hRc k e).1) (fun e=>by omega)
  ·exact Qbe hk2 (fun h5=>(l4 k hk).elim (fun e=>hk2 (hRc k e).2) (fun e=>by omega)) hk
 ·by_cases hk2:k<q
  ·rw [ho k hk2];exact (l5 k hk).elim (fun e=>(v9 k e).1) (fun e=>by omega)
  ·exact Xj hk2 (fun h5=>(l5 k hk).elim (fun e=>hk2 (v9 k e).2.2) (fun e=>by omega))<|l6 k hk
 ·exact (l5 k hk).elim (fun e=>(v9 k e).2.1) (fun e=>by have:=h.hB; omega)
end
end
section
open Go.RowKit Sha
theorem Qmw {D:DiskD} {x:Wri} {d:List UInt8} (h:Yt x.l):(QD D x d).1.1.sum.length=32∧Yt (QD D x d).2.1.l:=by
 unfold QD
 split
 ·exact ⟨by simp [eZ],h⟩
 split
 ·exact ⟨by simp [eZ],h⟩
 split
 ·rename_i e he
  exact ⟨h e (List.mem_of_find?_eq_some he),h⟩
 split
 ·exact ⟨by simp [eZ],h⟩
 split
 ·exact ⟨by simp [eZ],h⟩
 ·refine ⟨JD d,fun e he=>?_⟩
  rcases List.mem_append.1 he with he|he
  ·exact h e he
  ·rw [List.mem_singleton.1 he]; exact JD d
end
section
open Go.RowKit Sha
def LOK (q B:Nat) (w:World) (col:Nat→Nat) (L:List Nat):Prop:=∀ g,g∈L→(q≤g∨col g=0)∧B≤g∧g<w.heap.size
def MOK (q B:Nat) (w:World) (col:Nat→Nat) (M:List Nat):Prop:=∀ g,g∈M→(q≤g∨col g=0∨col g=3)∧B≤g∧g<w.heap.size
def CL (B:Nat) (L M:List Nat) (k:Nat):Prop:=B≤k∧k∉L∧k∉M
def PX (B:Nat) (w:World) (gs gd gr:Nat) (D E:DiskD) (W V:Option Wri) (P:Option (Int×Scn)) (pw pp:Option Addr) (is:Bool) (n:Int) (uL:Value) (cl:Bool) (fL:Value) (fg:Int) (fw:Bool) (pn:Int) (po:Bool) (pW:Option Addr) (nW:Option Wri) (L M:List Nat):Prop :=
  ∃ q col,PS q B w gs gd gr D E W V P pw pp is n uL cl fL fg fw pn po col∧WM q B w gd col pW nW∧LOK q B w col L∧MOK q B w col M
def Kps (B:Nat) (w0 w:World) (L M:List Nat) (w':World):Prop:=PTabs B w'∧Chg (fun k=>B≤k) w0 w'∧w.heap.size≤w'.heap.size∧Chg (CL B L M) w w'
section
variable {q B gs gd gr:Nat} {w w' w0:World} {D D' E E':DiskD} {W V:Option Wri} {P:Option (Int×Scn)} {pw pp pW:Option Addr} {is cl po fw:Bool} {n pn fg:Int} {uL fL:Value} {nW:Option Wri} {L M:List Nat} {col col':Nat→Nat} {S T:Nat→Prop}
theorem Kps.of (hT:PTabs B w) (hcw:Chg (fun k=>B≤k) w0 w) (hX:Chg (CL B L M) w w'):Kps B w0 w L M w':=⟨hT.chg hX (fun _ hk=>hk.1),hcw.next hX (fun _ hk=>.inl hk.1),hX.size,hX⟩
theorem LOK.tint {q' a b:Nat} (h:LOK q B w col L) (hs:w.heap.size≤w'.heap.size):LOK q' B w' (tint q w.heap.size col S a b) L:=fun g hg=>⟨.inr (VC (h g hg).1 (h g hg).2.2),(h g hg).2.1,by have:=(h g hg).2.2; omega⟩
theorem MOK.tint {q' a b:Nat} (h:MOK q B w col M) (hs:w.heap.size≤w'.heap.size):MOK q' B w' (tint q w.heap.size col S a b) M:=fun g hg=>by
 obtain ⟨h1,h2,h3⟩:=h g hg;refine ⟨?_,h2,by omega⟩
 rcases h1 with h1|h1|h1
 ·exact .inr<|.inl<|VC (.inl h1) h3
 ·exact .inr<|.inl<|VC (.inr h1) h3
 ·by_cases hq:g<q
  ·exact .inr<|.inr<|(Yf hq).trans h1
  ·exact .inr<|.inl<|VC (.inl Qb) h3
theorem LOK.le (h:LOK q B w col L) (hs:w.heap.size≤w'.heap.size):LOK q B w' col L:=fun g hg=>⟨(h g hg).1,(h g hg).2.1,by have:=(h g hg).2.2; omega⟩
theorem MOK.le (h:MOK q B w col M) (hs:w.heap.size≤w'.heap.size):MOK q B w' col M:=fun g hg=>⟨(h g hg).1,(h g hg).2.1,by have:=(h g hg).2.2; omega⟩
theorem LOK.app {l:List Nat} (h1:LOK q B w col l) (h2:LOK q B w col L):LOK q B w col (l++L):=fun g hg=>(List.mem_append.1 hg).elim (h1 g) (h2 g)
theorem Qdu {c k:Nat} (hL:LOK q B w col L) (hM:MOK q B w col M) (h0:c≠0) (h3:c≠3) (hk:col k=c∧k<q) (hB:B≤k):CL B L M k :=
 ⟨hB,fun e=>(hL k e).1.elim (fun f=>by omega) (fun f=>h0 (hk.1.symm.trans f)),fun e=>by
  rcases (hM k e).1 with f|f|f
  ·omega
  ·exact h0<|hk.1.symm.trans f
  ·exact h3 (hk.1.symm.trans f)⟩
theorem Qvx {c k:Nat} (hL:LOK q B w col L) (h0:c≠0) (hk:col k=c∧k<q) (hB:B≤k):CL B L [] k :=
 ⟨hB,fun e=>(hL k e).1.elim (fun f=>by omega) (fun f=>h0 (hk.1.symm.trans f)),fun e=>by cases e⟩
theorem MOK.nil:MOK q B w col []:=fun g hg=>by cases hg
theorem LOK.nil:LOK q B w col []:=fun g hg=>by cases hg
variable (h:PX B w gs gd gr D E W V P pw pp is n uL cl fL fg fw pn po pW nW L M)
include h
theorem PX.blk:Blk w gs 41 (ZW gd gr pw pp is n uL cl fL fg fw pn po):=by obtain ⟨q,col,h,_⟩:=h; exact h.blk
theorem PX.hB:B≤w.heap.size:=by obtain ⟨q,col,h,_⟩:=h; exact Nat.le_trans h.hB h.hq
theorem PX.gs_:CL B L M gs:=by obtain ⟨q,col,h,hW,hL,hM⟩:=h; exact Qdu hL hM QF QF ⟨h.cs.1,h.cs.2.2⟩ h.cs.2.1
theorem PX.mem {g:Nat} (hg:g∈L):B≤g∧g<w.heap.size:=by obtain ⟨q,col,h,hW,hL,hM⟩:=h; exact (hL g hg).2
theorem PX.bel (hb:Below w.heap.size w w'):PX B w' gs gd gr D E W V P pw pp is n uL cl fL fg fw pn po pW nW L M:=by
 obtain ⟨q,col,h,hW,hL,hM⟩:=h;exact ⟨q,col,h.bel hb,hW.bel hb,hL.le hb.size,hM.le hb.size⟩
theorem PX.add (hb:Below w.heap.size w w') (l:List Nat) (hl:∀ g,g∈l→w.heap.size≤g∧g<w'.heap.size):PX B w' gs gd gr D E W V P pw pp is n uL cl fL fg fw pn po pW nW (l++L) M:=by
 obtain ⟨q,col,h,hW,hL,hM⟩:=h
 have:=h.hq
 have:=h.hB
 exact ⟨q,col,h.bel hb,hW.bel hb,LOK.app (fun g hg=>by have:=hl g hg; exact ⟨.inl Qb,by omega,this.2⟩) (hL.le hb.size),hM.le hb.size⟩
theorem PX.drop:PX B w gs gd gr D E W V P pw pp is n uL cl fL fg fw pn po pW nW [] []:=by
 obtain ⟨q,col,h,hW,hL,hM⟩:=h;exact ⟨q,col,h,hW,LOK.nil,MOK.nil⟩
theorem PX.loc {g:Nat} (hg:g∈L) (hc:Chg (fun k=>k=g) w w'):PX B w' gs gd gr D E W V P pw pp is n uL cl fL fg fw pn po pW nW L M:=by
 obtain ⟨q,col,h,hW,hL,hM⟩:=h
 have h1:∀ k,k=g→q≤k∨col k=0:=fun k hk=>by subst hk; exact (hL _ hg).1
 exact ⟨q,col,h.loc hc h1,hW.loc hc h1,hL.le hc.size,hM.le hc.size⟩
theorem PX.dsk:∃ S,Own B w gd D S∧B≤w.heap.size∧(∀ g,g∈L→¬S g)∧∀ (w':World) (D':DiskD) (S':Nat→Prop),Chg S w w'→Own B w' gd D' S'→(∀ k,S' k→S k∨w.heap.size≤k)→∀ l:List Nat,(∀ g,g∈l→w.heap.size≤g∧¬S' g∧g<w'.heap.size) →
  PX B w' gs gd gr D' E W V P pw pp is n uL cl fL fg fw pn po pW nW (l++L) M∧Chg (CL B L M) w w':=by
 obtain ⟨q,col,h,hW,hL,hM⟩:=h;obtain ⟨S,hd,hS⟩:=h.own;have hq:=h.hq;have hB:=h.hB;refine ⟨S,hd,by omega,fun g hg e=>(hL g hg).1.elim (fun f=>by have:=(hS g e).2; omega) (fun f=>by have:=(hS g e).1; omega),fun w' D' S' hX hd' hS' l hl=>⟨⟨_,_,h.disk 0 hS hX hd' hS',?_,LOK.app (fun g hg=>?_) (hL.tint hX.size),hM.tint hX.size⟩,hX.mono fun k _ hk=>Qdu hL hM QF QF (hS k hk) (hd.lo k hk).1⟩⟩
 ·exact (hW.chg hX (fun k hk _=>by have:=(hS k hk).1; omega)).re (fun k hk=>Yf hk) (by have:=hX.size; omega)
 ·obtain ⟨h1,h2,h3⟩:=hl g hg;exact ⟨.inr (Xj Qb Qb h2),by omega,h3⟩
theorem PX.rdsk:∃ R,ROwn B w gr E R∧B≤w.heap.size∧(∀ g,g∈L→¬R g)∧∀ (w':World) (E':DiskD) (R':Nat→Prop),Chg R w w'→ROwn B w' gr E' R'→(∀ k,R' k→R k∨w.heap.size≤k) →
  PX B w' gs gd gr D E' W V P pw pp is n uL cl fL fg fw pn po pW nW L M∧Chg (CL B L M) w w':=by
 obtain ⟨q,col,h,hW,hL,hM⟩:=h;obtain ⟨R,hd,hS⟩:=h.rown;have hq:=h.hq;have hB:=h.hB;refine ⟨R,hd,by omega,fun g hg e=>(hL g hg).1.elim (fun f=>by have:=(hS g e).2; omega) (fun f=>by have:=(hS g e).1; omega),fun w' D' S' hX hd' hS'=>⟨⟨_,_,h.rdisk 0 hS hX hd' hS',?_,hL.tint hX.size,hM.tint hX.size⟩,hX.mono fun k _ hk=>Qdu hL hM QF QF (hS k hk) (hd.lo k hk).1⟩⟩;exact (hW.chg hX (fun k hk _=>by have:=(hS k hk).1; omega)).re (fun k hk=>Yf hk) (by have:=hX.size; omega)
theorem PX.recw (hc:Chg (fun k=>k=gs) w w') (hB:Blk w' gs 41 (ZW gd gr pW pp is n uL cl fL fg fw pn po)):PX B w' gs gd gr D E nW V P pW pp is n uL cl fL fg fw pn po none none L M:=by
 obtain ⟨q,col,h,hW,hL,hM⟩:=h;exact ⟨q,col,h.rec_ hc hB (hW.chg hc (h.gsc QF)) (h.vrS hc) (h.pkS hc) h.fl,Z,hL.le hc.size,hM.le hc.size⟩
theorem PX.recx (hc:Chg (fun k=>k=gs) w w') {is2 cl2:Bool} {n2:Int} {uL2:Value} {V2:Option Wri} (hB:Blk w' gs 41 (ZW gd gr pw pp is2 n2 uL2 cl2 fL fg fw pn po)) (hV:∀ q col,VM q B w' col is2 n2 uL2 cl2 V2):PX B w' gs gd gr D E W V2 P pw pp is2 n2 uL2 cl2 fL fg fw pn po pW nW L M:=by
 obtain ⟨q,col,h,hW,hL,hM⟩:=h;exact ⟨q,col,h.rec_ hc hB (h.wrS hc) (hV q col) (h.pkS hc) h.fl,hW.chg hc (h.gsc QF),hL.le hc.size,hM.le hc.size⟩
theorem PX.vr:(V=none→is=false∧uL.oneCell'=true)∧∀ y,V=some y→is=true∧n=y.n∧cl=y.closed∧Row w 95 4 uL y.l.length (y.l.flatMap Jh):=by
 obtain ⟨q,col,h,hW,hL,hM⟩:=h;have hv:=h.vr;refine ⟨fun e=>by subst e; exact hv,fun y e=>by subst e; exact ⟨hv.1,hv.2.1,hv.2.2.1,hv.2.2.2.1⟩⟩
theorem PX.wn (e:W=none):pw=none:=by
 obtain ⟨q,col,h,hW,hL,hM⟩:=h;subst e;exact h.wr
end
section
variable {B gs gd gr:Nat} {w w' w0:World} {D D' E E':DiskD} {W V:Option Wri} {P:Option (Int×Scn)} {pw pp pW:Option Addr} {is cl po fw:Bool} {n pn fg:Int} {uL fL:Value} {nW:Option Wri} {L M:List Nat} {x y:Wri}
theorem PX.wri (h:PX B w gs gd gr D E (some x) V P pw pp is n uL cl fL fg fw pn po none none L []):∃ gw gx gm v S,pw=some ⟨gw,0,none⟩∧WrAll B w gd gw gx gm D x v S ∧
  ∀ (w':World) (D':DiskD) (x':Wri) (v':Value) (S':Nat→Prop),WrAll B w' gd gw gx gm D' x' v' S'→(∀ k,S' k→S k∨w.heap.size≤k)→(∀ k,v'.ownBlock=some k→v.ownBlock=some k∨w.heap.size≤k)→Chg (fun k=>S k∨WrT gw gx gm v k) w w'→∀ l:List Nat,(∀ g,g∈l→w.heap.size≤g∧¬S' g∧g<w'.heap.size) →
  PX B w' gs gd gr D' E (some x') V P pw pp is n uL cl fL fg fw pn po none none L l∧Chg (CL B L []) w w':=by
 obtain ⟨q,col,h,hW,hL,hM⟩:=h;obtain ⟨gw,gx,gm,v,S,rfl,hA,hS,hTc⟩:=h.all;have hq:=h.hq;have hB:=h.hB;refine ⟨gw,gx,gm,v,S,Z,hA,fun w' D' x' v' S' h1 h2 h3 hX l hl=>⟨⟨_,_,h.wri hS hTc h1 h2 h3 hX,Z,hL.tint hX.size,fun g hg=>?_⟩,hX.mono fun k _ hk=>hk.elim (fun e=>Qvx hL QF (hS k e) (hA.wf.own.lo k e).1) (fun e=>Qvx hL QF ⟨(hTc k e).1,(hTc k e).2.2⟩ (hTc k e).2.1)⟩⟩;obtain ⟨l1,l2,l3⟩:=hl g hg;exact ⟨.inr (.inr (Xj Qb Qb l2)),by omega,l3⟩
theorem PX.rwl (h:PX B w gs gd gr D E W (some y) P pw pp is n uL cl fL fg fw pn po none none L M):∃ R,ROwn B w gr E R∧B≤w.heap.size∧¬R gs∧(∀ k,uL.ownBlock=some k→¬R k) ∧
  ∀ (w':World) (y':Wri) (E':DiskD),Qef B w gs gd gr R pw pp uL fL fg pn fw po y' E' w'→∃ uL',PX B w' gs gd gr D E' W (some y') P pw pp true y'.n uL' y'.closed fL fg fw pn po none none L M∧Chg (CL B L M) w w':=by
 obtain ⟨q,col,h,hW,hL,hM⟩:=h;obtain ⟨R,hd,hS⟩:=h.rown;have hq:=h.hq;have hB:=h.hB;have hv:=h.vr.2.2.2.2;refine ⟨R,hd,by omega,fun e=>by have:=(hS _ e).1; have:=h.cs.1; omega,fun k hk e=>by have:=(hS _ e).1; have:=(hv k hk).1; omega,fun w' y' E' hl=>?_⟩
 have hX:Chg (fun k=>R k∨k=gs∨uL.ownBlock=some k) w w':=by obtain ⟨_,_,_,_,_,_,_,_,hX⟩:=hl; exact hX
 obtain ⟨uL',R',h1⟩:=h.rwl hS hl;refine ⟨uL',⟨_,_,h1,Z,hL.tint hX.size,hM.tint hX.size⟩,hX.mono fun k _ hk=>?_⟩
 rcases hk with e|e|e
 ·exact Qdu hL hM QF QF (hS k e) (hd.lo k e).1
 ·subst e;exact Qdu hL hM QF QF ⟨h.cs.1,h.cs.2.2⟩ h.cs.2.1
 ·exact Qdu hL hM QF QF ⟨(hv k e).1,(hv k e).2.2⟩ (hv k e).2.1
theorem PX.reopen (h:PX B w gs gd gr D E W V P pw pp is n uL cl fL fg fw pn po none none L M) (hX:Chg (fun k=>k=gs∨w.heap.size≤k) w w') {pp2:Option Addr} {fL2:Value} {fg2 pn2:Int} {fw2 po2:Bool} {P2:Option (Int×Scn)}
  (hB2:Blk w' gs 41 (ZW gd gr pw pp2 is n uL cl fL2 fg2 fw2 pn2 po2)) (hf:fL2.oneCell'=true) (hP:∀ q col,(∀ k,w.heap.size≤k→k<w'.heap.size→col k=5∧k<q)→PM q B w' gd col pp2 po2 pn2 fL2 fg2 fw2 P2):PX B w' gs gd gr D E W V P2 pw pp2 is n uL cl fL2 fg2 fw2 pn2 po2 none none [] []:=by
 obtain ⟨q,col,h,hW,hL,hM⟩:=h;have hq:=h.hq;have hBq:=h.hB;have hz:=hX.size;obtain ⟨h1,h2,⟨S,h3,h3'⟩,⟨R,h4,h4'⟩,h5,hv,h6,hf',h7,h8⟩:=h
 have ho:∀ k,k<q→(fun k=>if k<q then col k else 5) k=col k:=fun k hk=>if_pos hk
 have hT:∀ {c:Nat},c≠6→∀ k,(k=gs∨w.heap.size≤k)→k<q→col k≠c:=fun hc k hk hl e=>hk.elim (fun f=>by subst f; exact hc (e.symm.trans h2.1)) (fun f=>by omega)
 refine ⟨w'.heap.size,fun k=>if k<q then col k else 5,⟨hB2,⟨(ho _ h2.2.2).trans h2.1,h2.2.1,by have:=h2.2.2; omega⟩,⟨S,h3.other hX (fun k hk e=>hT QF k hk (h3' k e).2 (h3' k e).1),fun k hk=>⟨(ho k (h3' k hk).2).trans (h3' k hk).1,by have:=(h3' k hk).2; omega⟩⟩,⟨R,h4.other hX (fun k hk e=>hT QF k hk (h4' k e).2 (h4' k e).1),fun k hk=>⟨(ho k (h4' k hk).2).trans (h4' k hk).1,by have:=(h4' k hk).2; omega⟩⟩,
  (h5.chg hX (hT QF)).re ho Qb,(hv.chg hX (hT QF)).re ho Qb,hP _ _ (fun k hk hl=>⟨if_neg Qb,hl⟩),hf,Nat.le_refl _,by omega⟩,rfl,LOK.nil,MOK.nil⟩
theorem PX.pak {p:Int×Scn} (h:PX B w gs gd gr D E W V (some p) pw pp is n uL cl fL fg fw pn po pW nW L M):∃ gp gx gm v,pp=some ⟨gp,0,none⟩∧po=true∧pn=p.1∧fg=(p.2.good:Nat)∧fw=p.2.whole∧PakAt w gd gp gx gm v p.1 p.2∧EOk p.2.l∧p.2.l.length≤441505∧REnts w fL p.2.l:=by
 obtain ⟨q,col,h,hW,hL,hM⟩:=h;obtain ⟨gp,gx,gm,v,h1,h2,h3,h4,h5,h6,h7,h8,h9,h10,h11⟩:=h.pk;exact ⟨gp,gx,gm,v,h1,h2,h3,h4,h5,h6,h7,h8,h10⟩
theorem PX.pkn (h:PX B w gs gd gr D E W V none pw pp is n uL cl fL fg fw pn po pW nW L M):pp=none∧po=false:=by obtain ⟨q,col,h,_⟩:=h; exact h.pk
theorem xbegin (h:PX B w gs gd gr D E W V P pw pp is n uL cl fL fg fw pn po none none L M) (hT:PTabs B w) (hcw:Chg (fun k=>B≤k) w0 w) (N:Nat) (m:Int) (hg:Good N D) (hN:N≤1000000000):Calls Tryz.prog 11 #[.pointer (some ⟨gd,0,none⟩),.int .i64 m] w fun e w'=>∃ p,e=.returned (.tuple #[.pointer p,.int .i64 (Q2 D m).1])∧p.isSome=decide ((Q2 D m).1=0) ∧
  PX B w' gs gd gr (Q2 D m).2 E W V P pw pp is n uL cl fL fg fw pn po p (if (Q2 D m).1=0 then some ⟨m,[],false⟩ else none) L M∧Kps B w0 w L M w':=by
 obtain ⟨q,col,h,hW,hL,hM⟩:=h;obtain ⟨S,hd,hS⟩:=h.own;have hq:=h.hq;have hB:=h.hB;refine (Qci B gd D S m N w hd hg hN Qb hT).mono ?_;rintro e_ w' ⟨p,S1,rfl,hd1,hS1,hX,hpn,hps⟩;have hz:=hX.size
 have hXL:Chg (CL B L M) w w':=hX.mono fun k _ hk=>Qdu hL hM QF QF (hS k hk) (hd.lo k hk).1
 refine ⟨p,Z,?_,⟨_,_,h.disk 3 hS hX hd1 hS1,?_,hL.tint hz,hM.tint hz⟩,Kps.of hT hcw hXL⟩
 ·by_cases h0:(Q2 D m).1=0
  ·obtain ⟨gw,gx,gm,v,hp,_⟩:=hps h0;rw [hp,decide_eq_true h0]; rfl
  ·rw [hpn h0,decide_eq_false h0]; rfl
 ·by_cases h0:(Q2 D m).1=0
  ·obtain ⟨gw,gx,gm,v,hp,hW,hWo⟩:=hps h0;rw [if_pos h0];exact ⟨gw,gx,gm,v,hp,hW.blk,hW.scn,fun k hk=>⟨Xj (by have:=hWo k hk; omega) (by have:=hWo k hk; omega) (hW.wf.ap k hk).1,(hW.wf.ap k hk).2,hW.lt k hk⟩⟩
  ·rw [if_neg h0];exact hpn h0
theorem Qpj (h:PX B w gs gd gr D E W V P pw pp is n uL cl fL fg fw pn po pW nW L M) (hT:PTabs B w) (hcw:Chg (fun k=>B≤k) w0 w) (N:Nat) (m:Int) (hg:Good N E) (hN:N≤900000000) (hfw:E.files.length≤100000):Calls Tryz.prog 37 #[.pointer (some ⟨gr,0,none⟩),.int .i64 m] w fun e w'=>e=.returned (.tuple #[.agg #[.bool (decide ((Q2 E m).1=0)),.int .i64 (if (Q2 E m).1=0 then m else 0),.slice none 0 0,.bool false],.int .i64 (Q2 E m).1]) ∧
  PX B w' gs gd gr D (Q2 E m).2 W V P pw pp is n uL cl fL fg fw pn po pW nW L M∧Kps B w0 w L M w':=by
 obtain ⟨R,hr,hB,_,hk⟩:=h.rdsk;refine (Qpa m N hr hB hg hN hfw).mono ?_;rintro e_ w' ⟨rfl,R1,hr1,hR1,hX⟩;obtain ⟨h1,h2⟩:=hk _ _ _ hX hr1 hR1;exact ⟨Z,h1,Kps.of hT hcw h2⟩
theorem xadd (h:PX B w gs gd gr D E (some x) V P pw pp is n uL cl fL fg fw pn po none none L []) (hT:PTabs B w) (hcw:Chg (fun k=>B≤k) w0 w) (N:Nat) (d:List UInt8) (hg:Good N D) (hN:N≤1000000000) (hd:d.length≤1099511627776) (hl:x.l.length≤1000000):Calls Tryz.prog 12 #[.pointer pw,Qv d] w fun e w'=>e=.returned (.tuple #[.agg (QD D x d).1.1.cells.toArray,.int .i64 (QD D x d).1.2]) ∧
  PX B w' gs gd gr (QD D x d).2.2 E (some (QD D x d).2.1) V P pw pp is n uL cl fL fg fw pn po none none L []∧Kps B w0 w L [] w':=by
 obtain ⟨gw,gx,gm,v,S,rfl,hA,hk⟩:=h.wri;refine (Qcj d N hA hg hN hT hd hl).mono ?_;rintro e_ w' ⟨rfl,v2,S2,hA2,hS2,hv2,hX⟩;obtain ⟨h1,h2⟩:=hk _ _ _ _ _ hA2 hS2 hv2 hX [] (fun g hg=>by cases hg);exact ⟨Z,h1,Kps.of hT hcw h2⟩
theorem Qpk (h:PX B w gs gd gr D E W (some y) P pw pp true y.n uL y.closed fL fg fw pn po none none L M) (hT:PTabs B w) (hcw:Chg (fun k=>B≤k) w0 w) (N:Nat) (d:List UInt8) (hq:E.stops=false) (hg:Good N E) (hN:N≤900000000) (hdl:d.length≤999000) (hl:y.l.length≤100000):Calls Tryz.prog 38 #[.pointer (some ⟨gs,4,none⟩),.pointer (some ⟨gr,0,none⟩),Qv d] w fun e w'=>∃ en,e=.returned (.tuple #[.agg (Jh en).toArray,.int .i64 (QD E y d).1.2])∧((QD E y d).1.2=0∨(QD E y d).1.2=16→en=(QD E y d).1.1) ∧
  (∃ uL',PX B w' gs gd gr D (QD E y d).2.2 W (some (QD E y d).2.1) P pw pp true (QD E y d).2.1.n uL' (QD E y d).2.1.closed fL fg fw pn po none none L M)∧Kps B w0 w L M w':=by
 obtain ⟨R,hr,hB,hgs,hu,hk⟩:=h.rwl;obtain ⟨_,_,_,hRow⟩:=h.vr.2 y rfl;refine (Qxd (gs:=gs) (x:=y) d N h.blk hRow hr hB hgs hu hq hg hN hdl hl).mono ?_;rintro e_ w' ⟨en,rfl,hen,hl⟩;obtain ⟨uL',h1,h2⟩:=hk _ _ _ hl;exact ⟨en,Z,hen,⟨uL',h1⟩,Kps.of hT hcw h2⟩
theorem xclose (h:PX B w gs gd gr D E (some x) V P pw pp is n uL cl fL fg fw pn po none none L []) (hT:PTabs B w) (hcw:Chg (fun k=>B≤k) w0 w) (N:Nat) (hg:Good N D) (hN:N≤1000000000) (hl:x.l.length≤1000000):Calls Tryz.prog 44 #[.pointer pw] w fun e w'=>∃ u l,e=.returned (.tuple #[.agg #[u],.int .i64 (Jc D x).1.2])∧EntsAt w' u (Jc D x).1.1∧(0<(Jc D x).1.1.length→∀ k,u.ownBlock=some k→k∈l) ∧
  PX B w' gs gd gr (Jc D x).2.2 E (some (Jc D x).2.1) V P pw pp is n uL cl fL fg fw pn po none none L l∧Kps B w0 w L [] w':=by
 obtain ⟨gw,gx,gm,v,S,rfl,hA,hk⟩:=h.wri;refine (Qmv N hA hg hN hT hl).mono ?_;rintro e_ w' ⟨u,v2,S2,rfl,hE,hO,hA2,hS2,hv2,hX⟩
 obtain ⟨h1,h2⟩:=hk _ _ _ _ _ hA2 hS2 hv2 hX (if 0<(Jc D x).1.1.length then u.ownBlock.toList else []) (fun g hg=>by
  split at hg
  ·rename_i h0
   have hg:=Option.mem_toList.1 hg;exact ⟨(hO g hg).1,(hO g hg).2,Reads.ownLt hE h0 hg⟩
  ·cases hg)
 exact ⟨u,_,Z,hE,fun h0 k hk=>by rw [if_pos h0]; exact Option.mem_toList.2 hk,h1,Kps.of hT hcw h2⟩
theorem xrclose (h:PX B w gs gd gr D E W (some y) P pw pp true y.n uL y.closed fL fg fw pn po none none L M) (hT:PTabs B w) (hcw:Chg (fun k=>B≤k) w0 w) (N:Nat) (hq:E.stops=false) (hg:Good N E) (hN:N≤900000000) (hl:y.l.length≤100000):Calls Tryz.prog 45 #[.pointer (some ⟨gs,4,none⟩),.pointer (some ⟨gr,0,none⟩)] w fun e w'=>∃ u,e=.returned (.tuple #[u,.int .i64 (Jc E y).1.2])∧REnts w' u (Jc E y).1.1 ∧
  (∃ uL',PX B w' gs gd gr D (Jc E y).2.2 W (some (Jc E y).2.1) P pw pp true (Jc E y).2.1.n uL' (Jc E y).2.1.closed fL fg fw pn po none none L M)∧Kps B w0 w L M w':=by
 obtain ⟨R,hr,hB,hgs,hu,hk⟩:=h.rwl;obtain ⟨_,_,_,hRow⟩:=h.vr.2 y rfl;refine (Qoz (gs:=gs) (x:=y) N h.blk hRow hr hB hgs hu hq hg hN hl).mono ?_;rintro e_ w' ⟨u,rfl,hE,hl⟩;obtain ⟨uL',h1,h2⟩:=hk _ _ _ hl;exact ⟨u,Z,hE,⟨uL',h1⟩,Kps.of hT hcw h2⟩
theorem xsave (h:PX B w gs gd gr D E W V P pw pp is n uL cl fL fg fw pn po pW nW L M) (hT:PTabs B w) (hcw:Chg (fun k=>B≤k) w0 w) (N:Nat) (m:Int) (u:Value) (l:List Ent) (hg:Good N D) (hN:N≤1000000000) (hE:EntsAt w u l) (h32:Yt l) (hu:∀ k,u.ownBlock=some k→k∈L∨w.heap.size≤k) (hl:l.length≤100000):Calls Tryz.prog 62 #[.pointer (some ⟨gd,0,none⟩),.int .i64 m,.agg #[u]] w fun e w'=>e=.returned (.int .i64 (JK D m l).1) ∧
  PX B w' gs gd gr (JK D m l).2 E W V P pw pp is n uL cl fL fg fw pn po pW nW L M∧Kps B w0 w L M w':=by
 obtain ⟨S,hd,hB,hLS,hk⟩:=h.dsk;refine (Qev u l N hd hB hg hN hT hE h32 (fun k hk e=>(hu k hk).elim (fun f=>hLS k f e) (fun f=>by have:=(hd.lo k e).2; omega)) hl).mono ?_;rintro e_ w' ⟨rfl,S1,hd1,hS1,hX⟩;obtain ⟨h1,h2⟩:=hk _ _ _ hX hd1 hS1 [] (fun g hg=>by cases hg);exact ⟨Z,h1,Kps.of hT hcw h2⟩
theorem Qbq (h:PX B w gs gd gr D E W V P pw pp is n uL cl fL fg fw pn po pW nW L M) (hT:PTabs B w) (hcw:Chg (fun k=>B≤k) w0 w) (N:Nat) (m:Int) (u:Value) (l:List Ent) (hg:Good N E) (hN:N≤900000000) (hfw:E.files.length≤100000) (hq:E.stops=false) (hE:REnts w u l) (h32:Yt l) (hfit:l.all Ze=true) (hu:∀ k,u.ownBlock=some k→k∈L) (hl:l.length≤10000):Calls Tryz.prog 63 #[.pointer (some ⟨gr,0,none⟩),.int .i64 m,u] w fun e w'=>e=.returned (.int .i64 (JK E m l).1) ∧
  PX B w' gs gd gr D (JK E m l).2 W V P pw pp is n uL cl fL fg fw pn po pW nW L M∧Kps B w0 w L M w':=by
 obtain ⟨R,hr,hB,hLR,hk⟩:=h.rdsk;refine (Qsy m u l N hr hB hg hN hfw hq hE h32 hfit (fun k hk=>hLR k (hu k hk)) hl).mono ?_;rintro e_ w' ⟨rfl,R1,hr1,hR1,hX⟩;obtain ⟨h1,h2⟩:=hk _ _ _ hX hr1 hR1;exact ⟨Z,h1,Kps.of hT hcw h2⟩
theorem Qjc (h:PX B w gs gd gr D E W V P pw pp is n uL cl fL fg fw pn po pW nW L M) (hT:PTabs B w) (hcw:Chg (fun k=>B≤k) w0 w) (N:Nat) (m:Int) (hg:Good N D) (hN:N≤1000000000) (hl:(QB D m).1.l.length≤100000):Calls Tryz.prog 66 #[.pointer (some ⟨gd,0,none⟩),.int .i64 m] w fun e w'=>∃ u l,e=.returned (.tuple #[.agg #[u],.int .i64 (Q8 D m).1.2])∧EntsAt w' u (Q8 D m).1.1∧(0<(Q8 D m).1.1.length→∀ k,u.ownBlock=some k→k∈l) ∧
  PX B w' gs gd gr (Q8 D m).2 E W V P pw pp is n uL cl fL fg fw pn po pW nW (l++L) M∧Kps B w0 w L M w':=by
 obtain ⟨S,hd,hB,hLS,hk⟩:=h.dsk;refine (Qgs N hd hB hg hN hT hl).mono ?_;rintro e_ w' ⟨u,S1,rfl,hE,hO,hO2,hd1,hS1,hX⟩
 obtain ⟨h1,h2⟩:=hk _ _ _ hX hd1 hS1 (if 0<(Q8 D m).1.1.length then u.ownBlock.toList else []) (fun g hg=>by
  split at hg
  ·rename_i h0
   have hg:=Option.mem_toList.1 hg;exact ⟨hO2 g hg,hO h0 g hg,Reads.ownLt hE h0 hg⟩
  ·cases hg)
 exact ⟨u,_,Z,hE,fun h0 k hk=>by rw [if_pos h0]; exact Option.mem_toList.2 hk,h1,Kps.of hT hcw h2⟩
theorem xdisk {f:FuncId} {args:Array Value} {r:Int×DiskD} (h:PX B w gs gd gr D E W V P pw pp is n uL cl fL fg fw pn po pW nW L M) (hT:PTabs B w) (hcw:Chg (fun k=>B≤k) w0 w)
  (hc:∀ S,Own B w gd D S→Calls Tryz.prog f args w (DPost gd S w r)):Calls Tryz.prog f args w fun e w'=>e=.returned (.int .i64 r.1)∧PX B w' gs gd gr r.2 E W V P pw pp is n uL cl fL fg fw pn po pW nW L M∧Kps B w0 w L M w':=by
 obtain ⟨S,hd,hB,hLS,hk⟩:=h.dsk;refine (hc S hd).mono ?_;rintro e_ w' ⟨rfl,hd1,hX⟩;obtain ⟨h1,h2⟩:=hk _ _ _ hX (hd.step hd1 hX hB) (fun k hk=>hk.elim .inl (fun e=>.inr e.1)) [] (fun g hg=>by cases hg);exact ⟨Z,h1,Kps.of hT hcw h2⟩
end
end
section
open Go.RowKit Sha
def AB (c:Nat) (j:Key):Nat:=if j.head?=some 112 then 1100*c else 70000
theorem U3 {c:Nat} {n:Int} (hr:QU n=true):AB c (Qz n)=1100*c:=by
 unfold AB Qz;rw [HO hr];exact if_pos Z
theorem Qxs (c:Nat) (n:Int):AB c (Zz n)=70000:=by
 unfold AB Zz KB
 split
 ·rfl
 ·rfl
theorem Qxr (c:Nat) (n:Int):AB c (Q1 n)=70000:=by
 unfold AB Q1 Zz KB
 split
 ·rfl
 ·rfl
theorem Yy (c:Nat) (j:Key):AB c j≤AB (c+1) j:=by
 unfold AB
 split <;> omega
structure PlG (c:Nat) (D:DiskD) (W:Option Wri):Prop where
  good:Good (70000*c) D
  q:D.stops=false
  le:Le (AB c) D
  few:D.files.length≤8*c
  wl:∀ x,W=some x→x.l.length≤c∧QU x.n=true
section
variable {c:Nat} {D:DiskD} {W:Option Wri}
theorem PlG.mono (h:PlG c D W):PlG (c+1) D W:=⟨h.good.mono Qb,h.q,h.le.mono (Yy c),by have:=h.few; omega,fun x hx=>⟨by have:=(h.wl x hx).1; omega,(h.wl x hx).2⟩⟩
theorem PlG.new {l:Int} (hl:0≤l∧l≤16777216):PlG 0 (YC l) none:=⟨Good.new hl,rfl,fun j f hf=>(by cases hf),Nat.zero_le _,fun x hx=>(by cases hx)⟩
theorem PlG.begin (h:PlG c D W) (n:Int):PlG (c+1) (Q2 D n).2 (if (Q2 D n).1=0 then some ⟨n,[],false⟩ else none):=by
 have hs:=h.good.ok.srt;have hf:=h.few
 have hn2:QU n=false→(Q2 D n).1=1:=fun hr=>by unfold Q2; rw [if_pos hr]
 refine ⟨(Qad h.good n).mono Qb,(Qgw D n).trans h.q,?_,?_,fun x hx=>?_⟩
 ·have hh:=YN n;have g1:=ZC h.good (Qz n);have q1:(QV D (Qz n)).2.stops=false:=(Zg _ _).trans h.q;have l1:=Qfo h.le h.q hs (Qz n);unfold Q2
  split
  ·exact h.le.mono<|Yy c
  rename_i hr
  have hr:QU n=true:=by simpa using hr
  have l2:Le (AB (c+1)) (QI (QV D (Qz n)).2 (Qz n) (JX n)).2:=XV l1 q1 g1.ok.srt (Qz n) (JX n) (by rw [U3 hr,U3 hr]; omega) (Yy c)
  split
  ·exact l1.mono<|Yy c
  split
  ·exact Vo l2 ((Jq _ _ _).trans q1) (JB g1 _ _).ok.srt _
  ·exact l2
 ·have f1:=UY D (Qz n);have f2:=K4 (QV D (Qz n)).2 (Qz n) (JX n);have f3:=YT (QI (QV D (Qz n)).2 (Qz n) (JX n)).2 (Qz n);unfold Q2
  split
  ·first|omega|(simp only; omega)
  split
  ·first|omega|(simp only; omega)
  split
  ·first|omega|(simp only; omega)
  ·first|omega|(simp only; omega)
 ·split at hx
  ·rename_i h0
   rw [← Option.some.inj hx];refine ⟨by simp,?_⟩
   cases hr:QU n with
   | true=>rfl
   | false=>rw [hn2 hr] at h0; simp at h0
  ·cases hx
theorem padd_n (D:DiskD) (x:Wri) (d:List UInt8):(QD D x d).2.1.n=x.n:=(Quo D x d).1
theorem PlG.add {x:Wri} (h:PlG c D (some x)) (d:List UInt8):PlG (c+1) (QD D x d).2.2 (some (QD D x d).2.1):=by
 have hs:=h.good.ok.srt;have hf:=h.few;obtain ⟨hxl,hxr⟩:=h.wl x rfl;refine ⟨(Qfc h.good x d).mono Qb,(Qmx D x d).trans h.q,?_,?_,fun y hy=>?_⟩
 ·unfold QD
  split
  ·exact h.le.mono<|Yy c
  split
  ·exact h.le.mono<|Yy c
  rename_i h2
  have hl:=Y4 d Qb;have l2:Le (AB (c+1)) (QI D (Qz x.n) (ZI d)).2:=XV h.le h.q hs (Qz x.n) (ZI d) (by rw [U3 hxr,U3 hxr]; omega) (Yy c)
  split
  ·exact h.le.mono<|Yy c
  split
  ·exact h.le.mono<|Yy c
  split
  ·exact l2
  ·exact l2
 ·have f2:=K4 D (Qz x.n) (ZI d);unfold QD
  split
  ·first|omega|(simp only; omega)
  split
  ·first|omega|(simp only; omega)
  split
  ·first|omega|(simp only; omega)
  split
  ·first|omega|(simp only; omega)
  split
  ·first|omega|(simp only; omega)
  ·first|omega|(simp only; omega)
 ·rw [← Option.some.inj hy];exact ⟨by have:=padd_len' D x d; omega,by rw [padd_n]; exact hxr⟩
where
  padd_len' (D:DiskD) (x:Wri) (d:List UInt8):(QD D x d).2.1.l.length≤x.l.length+1:=by
    obtain ⟨_,h1,h2⟩:=Quo D x d
    by_cases h:(QD D x d).1.2=0
    · rw [(h1 h).1,List.length_append,List.length_singleton]
      exact Nat.le_refl _
    · rw [h2 h]; omega
theorem PlG.close {x:Wri} (h:PlG c D (some x)):PlG (c+1) (Jc D x).2.2 (some (Jc D x).2.1):=by
 have hs:=h.good.ok.srt;have hf:=h.few;obtain ⟨hxl,hxr⟩:=h.wl x rfl;have hfl:=XW x.l;have g1:=JB h.good (Qz x.n) (Zw x.l);have q1:(QI D (Qz x.n) (Zw x.l)).2.stops=false:=(Jq _ _ _).trans h.q;have l2:Le (AB (c+1)) (QI D (Qz x.n) (Zw x.l)).2:=XV h.le h.q hs (Qz x.n) (Zw x.l) (by rw [U3 hxr,U3 hxr]; omega) (Yy c);have l3:=Qps l2 q1 g1.ok.srt (Qz x.n);have f2:=K4 D (Qz x.n) (Zw x.l);have f3:=Qcb (QI D (Qz x.n) (Zw x.l)).2 (Qz x.n)
 have hw:(Jc D x).2.1.l=x.l∧(Jc D x).2.1.n=x.n:=by
  unfold Jc
  split
  ·exact ⟨Z,Z⟩
  split
  ·exact ⟨Z,Z⟩
  split
  ·exact ⟨Z,Z⟩
  ·exact ⟨Z,Z⟩
 refine ⟨(Qjw h.good x).mono Qb,(Qgu D x).trans h.q,?_,?_,fun y hy=>?_⟩
 ·unfold Jc
  split
  ·exact h.le.mono<|Yy c
  split
  ·exact l2
  split
  ·exact l3
  ·exact l3
 ·unfold Jc
  split
  ·first|omega|(simp only; omega)
  split
  ·first|omega|(simp only; omega)
  split
  ·first|omega|(simp only; omega)
  ·first|omega|(simp only; omega)
 ·rw [← Option.some.inj hy,hw.1,hw.2];exact ⟨by omega,hxr⟩
theorem PlG.save (h:PlG c D W) (n:Int) {l:List Ent} (h32:Yt l) (hl:l.length≤1500):PlG (c+1) (JK D n l).2 W:=by
 have hs:=h.good.ok.srt;have hf:=h.few;have hlen:=XE h32;refine ⟨(Qmu h.good n l).mono Qb,(Qjv D n l).trans h.q,?_,?_,h.mono.wl⟩
 ·rw [Qac h.q hs];have g0:=ZU h.good (Q1 n);have q0:(Q7 D (Q1 n)).2.stops=false:=(Za _ _).trans h.q;have l0:=Qfn h.le h.q hs (Q1 n);have g1:=ZC g0 (Q1 n);have q1:(QV (Q7 D (Q1 n)).2 (Q1 n)).2.stops=false:=(Zg _ _).trans q0;have l1:=Qfo l0 q0 g0.ok.srt (Q1 n);have g2:=JB g1 (Q1 n) (ZH l);have q2:=(Jq (QV (Q7 D (Q1 n)).2 (Q1 n)).2 (Q1 n) (ZH l)).trans q1;have l2:Le (AB (c+1)) (QI (QV (Q7 D (Q1 n)).2 (Q1 n)).2 (Q1 n) (ZH l)).2:=XV l1 q1 g1.ok.srt (Q1 n) (ZH l) (by rw [if_pos rfl,Qxr]; omega) (fun j=>by have:=Yy c j; split <;> omega)
  split
  ·exact h.le.mono<|Yy c
  split
  ·exact Vo l2 q2 g2.ok.srt _
  ·exact Qrz (Qps l2 q2 g2.ok.srt _) ((UL _ _).trans q2) (YK g2 _).ok.srt _ _ (by rw [Qxr,Qxs]; exact Nat.le_refl _)
 ·have f0:=YT D (Q1 n);have f1:=UY (Q7 D (Q1 n)).2 (Q1 n);have f2:=K4 (QV (Q7 D (Q1 n)).2 (Q1 n)).2 (Q1 n) (ZH l);have f3:=YT (QI (QV (Q7 D (Q1 n)).2 (Q1 n)).2 (Q1 n) (ZH l)).2 (Q1 n);have f4:=Qcb (QI (QV (Q7 D (Q1 n)).2 (Q1 n)).2 (Q1 n) (ZH l)).2 (Q1 n);have f5:=Qmq (Ku (QI (QV (Q7 D (Q1 n)).2 (Q1 n)).2 (Q1 n) (ZH l)).2 (Q1 n)).2 (Q1 n) (Zz n);unfold JK
  split
  ·first|omega|(simp only; omega)
  split
  ·first|omega|(simp only; omega)
  split
  ·first|omega|(simp only; omega)
  ·first|omega|(simp only; omega)
theorem PlG.popen (h:PlG c D W) (hc:c≤51) (n:Int):(QB D n).1.l.length≤1480:=by
 have h1:=(XQ h.good.ok n).2.2;have h2:=Nat.le_trans h1.l h1.g
 cases hr:QU n with
 | false=>unfold QB; rw [if_pos hr]; simp [sc0]
 | true =>
  have h3:(Jo D (Qz n)).1.length≤1100*c:=by
   cases hm:mget D.files (Qz n) with
   | none=>rw [Zd hm]; simp
   | some f=>rw [Zc hm]; have:=h.le _ f hm; rw [U3 hr] at this; exact this
  omega
theorem PlG.crash (h:PlG c D W) (ks:List Int):PlG (c+1) (Ut D ks) none :=
 ⟨(Qoh h.good ks).mono Qb,rfl,(Qvb h.le h.good.ok ks).mono (Yy c),by rw [Qsi]; have:=h.few; omega,fun x hx=>(by cases hx)⟩
theorem PlG.rot (h:PlG c D W) (k:Key) (i:Int) (b:UInt8):PlG (c+1) (rotM D k i b).2 W :=
 ⟨(Qug h.good k i b).mono Qb,(Qre D k i b).trans h.q,(le_rot h.le h.good.ok.srt k i b).mono (Yy c),by have:=rot_few D k i b; have:=h.few; omega,h.mono.wl⟩
theorem PlG.remove (h:PlG c D W) (k:Key):PlG (c+1) (Q7 D k).2 W :=
 ⟨(ZU h.good k).mono Qb,(Za D k).trans h.q,(Vo h.le h.q h.good.ok.srt k).mono (Yy c),by have:=YT D k; have:=h.few; omega,h.mono.wl⟩
theorem PlG.idx (h:PlG c D W) (n:Int):∀ f,mget D.files (Zz n)=some f→f.now.length<1000000:=fun f hf=>by
 have:=h.le _ f hf
 rw [Qxs] at this
 omega
end
end
end Go.Proofs.YtgiccohjijhfkaaGreatDoor
