/- Part 10. -/
import Derived.Shelf.Strconv.Itoa3
import Derived.Deep.DeepCutAuto
import Derived.Test.YtgiccohjijhfkaaGreatDoorPackPlaysP9
set_option maxRecDepth 100000
set_option maxHeartbeats 4000000
namespace Go.Proofs.YtgiccohjijhfkaaGreatDoor
section
open Go.RowKit Go.Shelf
shelf_lay LaysM.n171 Nm 171 at Tryz as Tryz.lays171
def PowTab (w : World) : Prop := Lib.TabIs Tryz.prog w "internal/strconv.uint64pow10" .u64 Lib.pow10Tab
theorem Qxn (n:Nat) (w:World) (hT:PowTab w) (hn:n≤9223372036854775807):Calls Tryz.prog 80 #[.int .i64 n] w fun e w'=>e=.returned (Qv (Lib.decDigits n))∧Below w.heap.size w w':=by
 refine (Any.strconv_Itoa Tryz.lays171 (n:Int) Qb Qb w hT).mono ?_;rintro e w' ⟨rfl,k,os,rfl⟩;refine ⟨?_,?_⟩
 ·rw [Lib.itoa_nonneg]
  rfl
 ·refine ⟨Z,Z,Z,?_,fun k hk=>?_⟩
  ·show w.heap.size≤(w.heap++os).size
   rw [Array.size_append]; omega
  ·show (w.heap++os)[k]?=_
   rw [Array.getElem?_append_left hk]
theorem PowTab.bel {w w':World} (h:PowTab w) (hb:Below w.heap.size w w'):PowTab w':=Go.Joins.tab_stays (g:=2) Qo h hb (Nat.le_refl _)
theorem UR (n:Int) (w:World):Calls Tryz.prog 71 #[.int .i64 n] w fun e w'=>e=.returned (.bool (QU n))∧Below w.heap.size w w':=by
 refine Qj (args:=[.int .i64 n]) 9 fz71 Z Z Z<|Qt [(0,.int .i64 n)] ?_ ⟨Z,tvA⟩
 have bw:=Below.refl w.heap.size w
 refine Qa<|sa Z Z<|Wn<|tN<|Qa<|sm Z Z<|st (Z1 Z Z) Z<|sb Z Z (fun h5=>?_) (fun h5=>?_)
 ·replace h5:=Qs h5
  refine gY Z Z Z<|sm Z Z<|gY Z Z Z<|st (V7 Z Z) Z<|st (Qm Z Z) Z<|sa Z Z<|Wn<|tN<|Qg<|(rT Z Z ⟨?_,bw⟩).1
  congr 2
  unfold QU
  simp
  omega
 ·replace h5:=Qs h5
  refine gN Z Z Z Z<|gN Z Z Z Z<|st (Qq Z Z) Z<|sa Z Z<|Wn<|tN<|Qg<|(rT Z Z ⟨?_,bw⟩).1
  congr 2
  unfold QU
  simp
  omega
theorem pbs4 (a b c d:UInt8) (w:World):(Instr.buildSlice 114 4 #[(0,bv a),(1,bv b),(2,bv c),(3,bv d)]).run Tryz.prog w=.ok (.slice (some ⟨w.heap.size,0,none⟩) 4 4) (w.alloc (.cells #[bv a,bv b,bv c,bv d] 5)):=by kernel_rfl
theorem XR (n:Int) (w:World):Calls Tryz.prog 28 #[.int .i64 n] w fun e w'=>e=.returned (Qv (JR n))∧Below w.heap.size w w':=by
 refine Qj (args:=[.int .i64 n]) 16 fz28 Z Z Z<|Qt [(0,.int .i64 n)] ?_ ⟨Z,tvA⟩
 have bw:=Below.refl w.heap.size w
 refine Qa<|sa Z Z<|Wn<|tN<|Qa<|sm Z Z<|st (QM Z uz3 uz5 (wb _)) Z<|sm Z Z<|st (V6 (q:=256) Z Z QF QF Z Z) Z<|st (QM Z uz3 uz5 (wb _)) Z<|sm Z Z<|st (V6 (q:=65536) Z Z QF QF Z Z) Z<|st (QM Z uz3 uz5 (wb _)) Z<|sm Z Z<|st (V6 (q:=16777216) Z Z QF QF Z Z) Z<|st (QM Z uz3 uz5 (wb _)) Z<|sbs 1 Z (pbs4 _ _ _ _ _) (by simp [maxLen]) Z Z (fun g w1 hR hg hb=>?_)
 replace bw:=Ql bw hb
 refine st (Zs (s:=JR n) Z uz114 uz5 uz9 hR.reads) Z<|sa Z Z<|Wn<|tN<|Qg ?_
 exact (rT Z Z ⟨Z,bw⟩).1
theorem Qmi (k:Nat) (h:k≤6):List.take k [48,48,48,48,48,48]=List.replicate k (48:UInt8):=by
 rw [show ([48,48,48,48,48,48]:List UInt8)=List.replicate 6 48 from rfl,List.take_replicate,Nat.min_eq_left h]
theorem Qch (kind:List UInt8) (n:Int) (w:World) (hT:PowTab w) (hk:kind.length≤1000):Calls Tryz.prog 33 #[Qv kind,.int .i64 n] w fun e w'=>e=.returned (Qv (KB kind n))∧Below w.heap.size w w':=by
 refine Qj (args:=[Qv kind,.int .i64 n]) 19 Tryz.func33 Z Z Z<|Qt [(0,Qv kind),(1,.int .i64 n)] ?_ ⟨Z,Z,tvA⟩
 have bw:=Below.refl w.heap.size w
 refine Qa<|sa Z Z<|Wn<|tN<|Qe<|Qa<|sm Z Z<|sc _ fz71 Z Qo Z Z (Q3 (UR n _) fun w1 hb=>?_)
 replace bw:=Ql bw hb;replace hT:=hT.bel hb;have zz1:=hb.size;clear hb
 refine st (Jk Z) Z<|Wn<|tN<|Qx Z (fun h8=>?_) (fun h8=>?_)
 ·replace h8:=Qs h8
  refine Qa<|sa Z Z<|Wn<|tN<|Qg<|tR ?_
  exact (rT Z Z ⟨by rw [KB,if_neg (by simpa [QU] using h8)]; rfl,bw⟩).1
 ·replace h8:=Qs h8;have hn:0≤n∧n≤999999:=h8
  obtain ⟨m,rfl⟩:∃ m:Nat,n=m:=⟨n.toNat,by omega⟩
  obtain ⟨hd1,hd2⟩:=six_dec (n:=m) Qb
  refine Qf<|tN<|Qa<|sm Z Z<|sc _ Tryz.func80 Z Qo Z Z (Q3 (Qxn m _ hT Qb) fun w2 hb=>?_)
  replace bw:=Ql bw hb;replace hT:=hT.bel hb;have zz2:=hb.size;clear hb
  refine sa Z Z<|Wn<|tN<|Qa<|sm Z Z<|sm Z Z<|st (QP Z Z uz9) Z<|st (JU Z Z Qb) Z<|st (KQ (j:=6-(Lib.decDigits m).length) Z Z uz9 Qb Q0) Z ?_
  rw [Qmi (6-(Lib.decDigits m).length) Qb];refine st (JV Z Z (by simp; omega)) Z ?_
  refine sm Z Z<|st (JV Z Z (by simp; omega)) Z ?_
  rw [List.append_assoc,hd2]
  refine sa Z Z<|Wn<|tN<|Qg ?_
  exact (rT Z Z ⟨by rw [KB,if_pos (by simpa [QU] using hn)]; simp,bw⟩).1
theorem Ua (n:Int) (w:World) (hT:PowTab w):Calls Tryz.prog 13 #[.int .i64 n] w fun e w'=>e=.returned (Qv (Qz n))∧Below w.heap.size w w':=by
 refine Qj (args:=[.int .i64 n]) 5 fz13 Z Z Z<|Qt [(0,.int .i64 n)] ?_ ⟨Z,tvA⟩
 have bw:=Below.refl w.heap.size w
 refine Qa<|sa Z Z<|Wn<|tN<|Qa<|sm Z Z<|sc _ Tryz.func33 Z Qo Z Z (Q3 (Qch packB n _ hT (by simp [packB])) fun w1 hb=>?_)
 replace bw:=Ql bw hb;replace hT:=hT.bel hb;have zz1:=hb.size;clear hb
 refine sa Z Z<|Wn<|tN<|Qg ?_
 exact (rT Z Z ⟨Z,bw⟩).1
theorem XN (n:Int) (w:World) (hT:PowTab w):Calls Tryz.prog 68 #[.int .i64 n] w fun e w'=>e=.returned (Qv (Zz n))∧Below w.heap.size w w':=by
 refine Qj (args:=[.int .i64 n]) 5 Tryz.func68 Z Z Z<|Qt [(0,.int .i64 n)] ?_ ⟨Z,tvA⟩
 have bw:=Below.refl w.heap.size w
 refine Qa<|sa Z Z<|Wn<|tN<|Qa<|sm Z Z<|sc _ Tryz.func33 Z Qo Z Z (Q3 (Qch indexB n _ hT (by simp [indexB])) fun w1 hb=>?_)
 replace bw:=Ql bw hb;replace hT:=hT.bel hb;have zz1:=hb.size;clear hb
 refine sa Z Z<|Wn<|tN<|Qg ?_
 exact (rT Z Z ⟨Z,bw⟩).1
def Vl (d:Bool) (n:Int):Int:=if d=false then 2 else if QU n=false then 1 else 0
theorem VI (p:Option Addr) (n:Int) (w:World):Calls Tryz.prog 24 #[.pointer p,.int .i64 n] w fun e w'=>e=.returned (.int .i64 (Vl p.isSome n))∧Below w.heap.size w w':=by
 refine Qj (args:=[.pointer p,.int .i64 n]) 12 fz24 Z Z Z<|Qt [(0,.pointer p),(1,.int .i64 n)] ?_ ⟨Z,Z,tvA⟩
 have bw:=Below.refl w.heap.size w
 refine Qa<|sa Z Z<|Wn<|tN<|Qe<|Qp<|Qa<|sm Z Z<|st (Qam Z) Z<|sa Z Z<|Wn<|tN<|Qx Z (fun h5=>?_) (fun h5=>?_)
 ·replace h5:=Qs h5
  refine Qa<|sa Z Z<|Wn<|tN<|Qg<|bR<|tR ?_
  exact (rT Z Z ⟨by cases p with|none=>rfl|some a=>simp at h5,bw⟩).1
 ·replace h5:=Qs h5
  obtain ⟨a,rfl⟩:∃ a,p=some a:=by cases p with|none=>simp at h5|some a=>exact ⟨a,rfl⟩
  refine Qa<|sm Z Z<|sc _ fz71 Z Qo Z Z (Q3 (UR n _) fun w1 hb=>?_)
  replace bw:=Ql bw hb;have zz1:=hb.size;clear hb
  refine st (Jk Z) Z<|sa Z Z<|Wn<|tN<|Qx Z (fun h8=>?_) (fun h8=>?_)
  ·replace h8:=Qs h8
   refine Qa<|sa Z Z<|Wn<|tN<|Qg<|bR<|tR ?_
   exact (rT Z Z ⟨by rw [Vl,if_neg Q0,if_pos (by simpa [QU] using h8)],bw⟩).1
  ·replace h8:=Qs h8
   refine Qf<|bN<|tN<|Qa<|sa Z Z<|Wn<|tN<|Qg ?_
   exact (rT Z Z ⟨by rw [Vl,if_neg Q0,if_neg (by simpa [QU] using h8)],bw⟩).1
end
section
open Go.RowKit Sha
theorem Hg (s:List UInt8) (w:World) (hT:ShaTabs w) (hs:s.length≤4294960000):Calls Tryz.prog 14 #[Qv s] w fun e w'=>e=.returned (.agg ((sha s).map bv).toArray)∧Below w.heap.size w w':=by
 have:=Qsv ⟨s.toArray⟩ w hT (by show s.toArray.size≤_; simpa using hs)
 exact this
theorem Qtx {w:World} {g:Nat} {t:TypeId} {l:List UInt8} (hB:Blk w g t (l.map bv).toArray) (hl:l.length=32):Reads w 1 (.slice (some ⟨g,0,none⟩) 32 32) 32 (l.map bv):=by
 refine ⟨by simp [hl],_,32,Z,Nat.le_refl _,by simp [maxLen],fun _=>⟨g,0,Z,hB.lt,fun j u hj=>?_⟩⟩;rw [hB.cell,List.getElem?_toArray,Nat.zero_add];exact hj
theorem Jn {l:List UInt8} (hl:l.length=32):(l.map bv).toArray.size=32:=by simp [hl]
theorem Vf (l:List UInt8):(l.map bv).toArray.toList.all (·.oneCell')=true:=by simp [bv,Value.oneCell']
theorem Qmn (s:List UInt8) (w:World) (hT:ShaTabs w) (hs:s.length≤1000000):Calls Tryz.prog 31 #[Qv s] w fun e w'=>e=.returned (Qv (KN 2 (sha s++s)))∧Below w.heap.size w w':=by
 have h32:(sha s).length=32:=JD s
 refine Qj (args:=[Qv s]) 11 Tryz.func31 Z Z Z<|Qt [(0,Qv s)] ?_ ⟨Z,tvA⟩
 have bw:=Below.refl w.heap.size w
 refine Qa<|sa Z Z<|Wn<|tN<|Qa<|sm Z Z<|sc _ fz14 Z Qo Z Z (Q3 (Hg s _ hT Qb) fun w1 hb=>?_)
 replace bw:=Ql bw hb;have zz1:=hb.size;clear hb;refine Jm inf57 Z (fun g3 w2 hB3 hg3 hb hl3=>?_);replace bw:=Ql bw hb;have zz2:=hb.size;clear hb;refine QY Z Z hB3 (by rw [Jn h32]; exact siz57) (by rw [Jn h32]; rfl) (Vf _) (fun w3 bB cC=>?_);replace hB3:=bB;replace bw:=Ji bw cC Qb;have zz3:=cC.size;clear bB cC
 refine Wn<|tN<|Qa<|st (XZ Z uz57 siz5) Z<|st (Zs (s:=sha s) Z uz114 uz5 uz9 (Qtx hB3 h32)) Z<|sm Z Z<|st (JV Z Z Qb) Z<|sc _ fz27 Z Qo Z Z (Q3 (Hc 2 (sha s++s) _ (by simp; omega)) fun w3 hb=>?_)
 replace bw:=Ql bw hb;replace hB3:=hB3.bel hb;have zz3:=hb.size;clear hb
 refine sa Z Z<|Wn<|tN<|Qg ?_
 exact (rT Z Z ⟨Z,bw⟩).1
theorem rCTT {P:Program} {fn:Func} {R:Ending→World→Prop} {l:Env} {w:World} {ty:TypeId} {p g t2 t3:Nat} {v2 v3:Value} {bt:TypeId} {cs:Array Value} {d:TypeDesc} (hf:fn.results=#[.cell p ty,.tmp t2,.tmp t3]) (hx:lk l p=some (.pointer (some ⟨g,0,none⟩))) (hB:Blk w g bt cs) (hu:P.underlying ty=some d) (hd:(match d with|.struct _|.array _ _=>true|_=>false)=true) (hi:(P.info? ty).map (·.size)=some cs.size) (hy:lk l t2=some v2) (hz:lk l t3=some v3)
  (hR:R (.returned (.tuple #[.agg cs,v2,v3])) w):JI P fn R .ret l w∧JI P fn R .normal l w:=r3 hf (Qgo hx hB hu hd hi) hy hz hR
def z32L:List UInt8:=List.replicate 32 0
def Qxf (s:List UInt8) (w:World) (e:Ending) (w':World):Prop :=
  ∃ a d ok,e=.returned (.tuple #[.agg (a.map bv).toArray,Qv d,.bool ok])∧a.length=32∧ok=Ke s∧(ok=true→a=s.take 32∧d=s.drop 32)∧Below w.heap.size w w'
theorem Qcl (s:List UInt8) (w:World) (hT:ShaTabs w) (hs:s.length≤1099511627776):Calls Tryz.prog 104 #[Qv s] w (Qxf s w):=by
 refine Qj (args:=[Qv s]) 27 Tryz.func104 Z Z Z<|Qt [(0,Qv s)] ?_ ⟨Z,tvA⟩
 have bw:=Below.refl w.heap.size w
 refine Qa<|Jm inf57 Z (fun g2 w1 hB2 hg2 hb hl2=>?_)
 replace bw:=Ql bw hb;have zz1:=hb.size;clear hb
 refine sa Z Z<|sa Z Z<|Wn<|tN<|Qa<|Jm inf57 Z (fun g5 w2 hB5 hg5 hb hl5=>?_)
 replace bw:=Ql bw hb;replace hB2:=hB2.bel hb;have zz2:=hb.size;clear hb
 refine Wn<|tN<|Qe<|Qa<|sm Z Z<|st (QP Z Z uz9) Z<|st (V7 Z Z) Z<|sb Z Z (fun h10=>?_) (fun h10=>?_)
 ·replace h10:=Qs h10
  refine gN Z Z Z Z<|gN Z Z Z Z<|gN Z Z Z Z<|st (Qm Z Z) Z<|Wn<|tN<|QO Z (Z)<|Qa<|st (QE Z hB5 uz57 Z siz57) Z<|QY Z Z hB2 siz57 Z Z (fun w3 bB cC=>?_)
  replace hB2:=bB;clear bB;replace hB5:=hB5.chg cC Z5;replace bw:=Ji bw cC Qb;have zz3:=cC.size;clear cC
  refine sa Z Z<|sa Z Z<|Wn<|tN<|Qg<|tR<|(rCTT Z Z hB2 uz57 Z siz57 Z Z ⟨z32L,[],false,Z,Z,?_,(fun h=>by cases h),bw⟩).1
  unfold Ke;rw [decide_eq_false Qb]
 ·replace h10:=Qs h10
  refine gY Z Z Z<|sm Z Z<|gY Z Z Z<|st (QP Z Z uz9) Z<|gY Z Z Z<|st (Jg Z Z) Z<|st (Qq Z Z) Z<|Wn<|tN<|Qx Z (fun h14=>?_) (fun h14=>?_)
  ·replace h14:=Qs h14
   refine Qa<|st (QE Z hB5 uz57 Z siz57) Z<|QY Z Z hB2 siz57 Z Z (fun w4 bB cC=>?_)
   replace hB2:=bB;clear bB;replace hB5:=hB5.chg cC Z5;replace bw:=Ji bw cC Qb;have zz4:=cC.size;clear cC
   refine sa Z Z<|sa Z Z<|Wn<|tN<|Qg<|tR<|(rCTT Z Z hB2 uz57 Z siz57 Z Z ⟨z32L,[],false,Z,Z,?_,(fun h=>by cases h),bw⟩).1
   unfold Ke;rw [decide_eq_false Qb]
  ·replace h14:=Qs h14
   have h33:33≤s.length:=by omega
   have h56:s.length≤1056:=by omega
   refine Qf<|tN<|Qa<|st (XZ Z uz57 siz5) Z<|sm Z Z<|scpT (n:=32) Z Z uz114 siz5 hB5 Qb (by show 0+32≤(List.replicate 32 _).toArray.size; rw [List.size_toArray,List.length_replicate]; omega) Z (fun w5 bB cC=>?_)
   have hB5':Blk w5 g5 57 ((s.take 32).map bv).toArray:=by simpa using bB
   replace hB5:=hB5';replace hB2:=hB2.chg cC Qb;replace bw:=Ji bw cC Qb;clear bB hB5' cC
   refine Wn<|tN<|Qa<|sm Z Z<|st (Ka (i:=32) Z Z uz9 Z Qb) Z<|sa Z Z<|Wn<|tN ?_
   have hB0:=hB5
   have h32:(s.take 32).length=32:=by rw [List.length_take]; omega
   refine QS (fun G=>Blk G g5 57 ((s.take 32).map bv).toArray) [0,1,2,4,3,5,6,7,8] [Y,Y,Y,Y,false,Y,false,Y,Y] Qo Qo (hB5.drew) ?_;obtain ⟨w6,hw_,hb⟩:=QN w5;rw [← hw_];clear hw_;have hS:=hb;replace bw:=Ql bw hb;replace hB2:=hB2.bel hb;replace hB5:=hB5.bel hb;have zz6:=hb.size;clear hb;refine oY Z (fun G U=>(QE Z U uz57 Z (by rw [Jn h32]; exact siz57))) Z ?_
   refine oY Z (fun G U=>(Qd Z)) Z<|oY Z (fun G U=>(Qd Z)) Z<|oY Z (fun G U=>(QE Z U uz57 Z (by rw [Jn h32]; exact siz57))) Z ?_
   refine oL Z (fun Q_ hQ_ hP_=>(sc _ fz14 Z Qo Z Z (Q3 (Hg _ _ (hT.belowAll bw) (by simp; omega)) fun w7 hb=>?_)));replace bw:=Ql bw hb;replace hB2:=hB2.bel hb;replace hB5:=hB5.bel hb;have zz7:=hb.size;clear hb
   refine Wn<|hQ_ _ _ (hB5) ?_
   clear hQ_ hP_ Q_
   refine oY Z (fun G U=>(Qea (JD _) h32 Z Z)) Z<|oL Z (fun Q_ hQ_ hP_=>(QY Z Z hB2 (by rw [Jn h32]; exact siz57) (by rw [Jn h32]; rfl) (Vf _) (fun w8 bB cC=>?_)))
   replace hB2:=bB;replace hB5:=hB5.chg cC (by show ¬g5=g2; omega);replace bw:=Ji bw cC Qb;clear bB cC
   refine Wn<|hQ_ _ _ (hB5) ?_
   clear hQ_ hP_ Q_
   refine oY Z (fun G U=>(Qy Z)) Z<|oY Z (fun G U=>(Qy Z)) Z<|oN<|nN<|Qg<|(rCTT Z Z hB2 uz57 Z (by rw [Jn h32]; exact siz57) Z Z ⟨s.take 32,s.drop 32,_,Z,h32,?_,(fun _=>⟨Z,Z⟩),bw⟩).1
   unfold Ke;rw [Bool.eq_iff_iff];simp only [beq_iff_eq,decide_eq_true_eq];exact ⟨fun h=>⟨h33,h56,h⟩,fun h=>h.2.2⟩
end
section
open Go.RowKit
theorem Qav {P:Program} (w:World) (t tx ty e:TypeId) (i:TypeInfo) (z:Value) (size bytes:Nat) (ht:P.underlying t=some (.slice e)) (hi:P.info? e=some i) (hz:i.zero=some z)
  (hsize:i.size=size) (hby:i.bytes=bytes) (hzs:z.cells.size=size) (_hsz:0<size)
  (v:Value) (n:Nat) (xs:List Value) (hown:Row w e size v n xs) (x:Value) (m:Nat) (news:List Value) (hs:Src P size tx x m news w)
  (h63:n+m≤maxLen) (hbytes:(n+m)*bytes≤140737488355328) :
  ∃ v' w',(Builtin.append_ #[t,tx] ty #[v,x]).run P w=.ok v' w'∧Row w' e size v' (n+m) (xs++news)∧Chg (fun k=>v.ownBlock=some k) w w' ∧
   (v'.ownBlock=v.ownBlock∨v'.ownBlock=some w.heap.size)∧Row w' e size v n xs:=by
 subst hsize
 subst hby
 have hsmall:n+m≤9223372036854775807:=by simp only [maxLen] at h63; omega
 have hlen:(xs++news).length=(n+m)*i.size:=by rw [List.length_append,hown.1,hs.newsLen,Nat.add_mul]
 have grown:∀ (old:Nat),old<n+m →
   Row (w.drew.alloc (.cells ((xs++news).toArray++Builtin.zeroCells z.cells (grownCap w (n+m) old e-(n+m))) e)) e i.size
    (.slice (some ⟨w.heap.size,0,none⟩) (n+m) (grownCap w (n+m) old e)) (n+m) (xs++news):=by
  intro old ho;have hge:=grownCap_ge w (n+m) old e;have hcm:grownCap w (n+m) old e≤maxLen:=grownCap_le_maxLen w (n+m) old e h63;refine ⟨hlen,.inr ⟨w.heap.size,0,_,_,(0,0),Z,heap_alloc_new w.drew _,hge,hcm,?_,?_,fun j _=>by simp⟩⟩
  ·simp only [Array.size_append,List.size_toArray,size_zeroCells,hzs,hlen,← Nat.add_mul];rw [show n+m+(grownCap w (n+m) old e-(n+m))=grownCap w (n+m) old e from by omega]
   omega
  ·simp only [Array.toList_append,List.drop_zero];rw [← hlen];exact List.take_left
 have hgc:∀ o:Obj,Chg (fun k=>v.ownBlock=some k) w (w.drew.alloc o):=fun o=>((Chg.refl _ w).drew).alloc o
 rcases hown.2 with ⟨rfl,rfl⟩|⟨g,off,cap,cur,fz,rfl,hg,hnc,hcm,hcs,htake,hfz⟩
 ·have hx:xs=[]:=List.eq_nil_of_length_eq_zero (by simpa using hown.1);subst hx
  by_cases hm:m=0
  ·subst hm;have hn:news=[]:=List.eq_nil_of_length_eq_zero (by simpa using hs.newsLen);subst hn;refine ⟨.slice none 0 0,w,?_,Row.nil w e i.size,Chg.refl _ w,.inl Z,Row.nil w e i.size⟩
   rcases hs.kind with ⟨e',hk⟩|hk <;> simp [Builtin.append_,run_underlying ht,run_underlying hk,sizeOf,typeInfo,hi,hs.len,hs.cells]
  ·have hr:=run_append_grow_src (P:=P) w t tx ty e i z ht hi hz none 0 0 [] (by simp [Builtin.firstCells]) x m news hs Qb (by simp only [Nat.zero_add] at *; omega) (growslice_fits Qb hbytes);exact ⟨_,_,hr,grown 0 Qb,hgc _,.inr Z,Row.nil _ e i.size⟩
 ·by_cases hroom:n+m≤cap
  ·have hin:off+n*i.size+news.length≤cur.size:=by
    rw [hs.newsLen]
    have:n*i.size+m*i.size≤cap*i.size:=by rw [← Nat.add_mul]; exact Nat.mul_le_mul_right _ hroom
    omega
   have hr:=run_append_room_src (P:=P) w t tx ty e i ht hi g off n cap x m news hs hroom
    (fun j hj=>by rw [cell_of_row w g _ cur e fz hg,Array.getElem?_eq_getElem Qb]; rfl) (fun j hj=>by
     have:=hfz (off+n*i.size+j) Qb
     simp only [World.frozen?,hg];simp only [Bool.and_eq_false_iff,decide_eq_false_iff_not]
     omega)
   obtain ⟨cur',e1,e2,e3,e4⟩:=UN g news (off+n*i.size) w cur e fz hg;obtain ⟨k1,k2,k3,k4,k5⟩:=K6 g news (off+n*i.size) w;refine ⟨_,_,hr,⟨hlen,.inr ⟨g,off,cap,cur',fz,rfl,e1,hroom,hcm,by omega,?_,fun j hj=>hfz j Qb⟩⟩,⟨k1,k2,k3,by omega,fun k _ hk=>k5 k (by rintro rfl; exact hk (by simp [Value.ownBlock]))⟩,.inl (by simp [Value.ownBlock]),?_⟩
   rotate_left
   ·refine ⟨hown.1,.inr ⟨g,off,cap,cur',fz,Z,e1,hnc,hcm,by omega,?_,fun j hj=>hfz j Qb⟩⟩;rw [← htake]
    apply List.ext_getElem?
    intro j;rw [List.getElem?_take,List.getElem?_take]
    split
    ·rw [List.getElem?_drop,List.getElem?_drop,Array.getElem?_toList,Array.getElem?_toList,e3 (off+j) Qb]
    ·rfl
   have hxl:=hown.1;have hnl:=hs.newsLen;have hsum:(n+m)*i.size=n*i.size+m*i.size:=Nat.add_mul _ _ _
   apply List.ext_getElem?
   intro j;rw [List.getElem?_take]
   by_cases hj:j<(n+m)*i.size
   ·rw [if_pos hj,List.getElem?_drop,Array.getElem?_toList]
    by_cases hjn:j<n*i.size
    ·rw [e3 (off+j) Qb,List.getElem?_append_left Qb,← htake,List.getElem?_take,if_pos hjn,List.getElem?_drop,Array.getElem?_toList]
    ·rw [List.getElem?_append_right Qb]
     have:=e4 (j-n*i.size) Qb Qb
     rw [show off+n*i.size+(j-n*i.size)=off+j from by omega] at this;rw [this,hxl]
   ·rw [if_neg hj]
    symm
    rw [List.getElem?_eq_none]
    omega
  ·have hold:(Builtin.firstCells i.size n (.slice (some ⟨g,off,none⟩) n cap)).run P w.drew=.ok xs.toArray w.drew :=
    run_firstCells_some w.drew i.size n _ n cap xs hown.1 (fun j u hu=>by
     rw [Addr.add_lit]
     show w.cell? _=_
     rw [cell_of_row w g (off+j) cur e fz hg];rw [← htake,List.getElem?_take] at hu
     split at hu
     ·rw [List.getElem?_drop] at hu; simpa using hu
     ·cases hu)
   have hr:=run_append_grow_src (P:=P) w t tx ty e i z ht hi hz (some ⟨g,off,none⟩) n cap xs hold x m news hs Qb Qb (growslice_fits Qb hbytes);exact ⟨_,_,hr,grown cap Qb,hgc _,.inr Z,(hown.drew.alloc _)⟩
theorem Qbr {P:Program} (w:World) {o:Oper} {a:Act} {K:Act→World→Prop} {Q:Exit→Act→World→Prop} (s x:Operand) (t tx:TypeId)
  (ho:o.op=.call { callee:=.builtin .append,args:=#[s,x],argTypes:=#[t,tx] })
  (e:TypeId) (i:TypeInfo) (z:Value) (size bytes:Nat) (ht:P.underlying t=some (.slice e)) (hi:P.info? e=some i) (hz:i.zero=some z)
  (hsize:i.size=size) (hby:i.bytes=bytes) (hzs:z.cells.size=size) (hsz:0<size)
  (v:Value) (n:Nat) (xs:List Value) (hs:a.eval s=v) (hown:Row w e size v n xs)
  (xv:Value) (m:Nat) (news:List Value) (hx:a.eval x=xv) (hsrc:Src P size tx xv m news w)
  (h63:n+m≤maxLen) (hbytes:(n+m)*bytes≤140737488355328)
  (h:∀ v' w',Row w' e size v' (n+m) (xs++news)→Chg (fun k=>v.ownBlock=some k) w w'→(v'.ownBlock=v.ownBlock∨v'.ownBlock=some w.heap.size)→Row w' e size v n xs→K (a.put o.dst v') w'):o.wp P a w K Q:=by
 obtain ⟨v',w',hr,h2,h3,h4,h5⟩:=Qav (P:=P) w t tx o.type e i z size bytes ht hi hz hsize hby hzs hsz v n xs hown xv m news hsrc h63 hbytes;unfold Oper.wp execOp;simp only [ho,resolve,invoke,builtin,Sem.run_bind,Sem.run_pure,Result.andThen_ok,List.map_toArray,List.map_cons,List.map_nil,hs,hx,hr];exact h v' w' h2 h3 h4 h5
theorem Row.at_ {w:World} {e:TypeId} {n cap g o j:Nat} {xs:List Value} {u:Value} (h:Row w e 1 (.slice (some ⟨g,o,none⟩) n cap) n xs) (hx:xs[j]?=some u):w.cell? ⟨g,o+j,none⟩=some u:=by
 have hj:j<n:=by
  have:=h.1
  rcases Nat.lt_or_ge j n with hj|hj
  ·exact hj
  ·rw [List.getElem?_eq_none Qb] at hx; cases hx
 obtain ⟨g',o',cap',hv,_,_,_,hc,_⟩:=h.form Qb;injection hv with ha _ _;injection ha with ha;injection ha with hg ho;subst hg;subst ho;exact hc j u hx
theorem Reads.at_ {w:World} {size n cap g o j:Nat} {xs:List Value} {u:Value} (h:Reads w size (.slice (some ⟨g,o,none⟩) n cap) n xs) (hn:0<n) (hx:xs[j]?=some u):w.cell? ⟨g,o+j,none⟩=some u:=by
 obtain ⟨_,a,c,hv,_,_,h5⟩:=h;injection hv with ha _ _;obtain ⟨g',off,e,_,hc⟩:=h5 hn;rw [← ha] at e;injection e with e;injection e with hg ho;subst hg;subst ho;exact hc j u hx
theorem Row.firsts {w:World} {e:TypeId} {n cap g o m:Nat} {xs:List Value} (h:Row w e 1 (.slice (some ⟨g,o,none⟩) n cap) n xs) (hm:m≤n) (h0:0<cap):Row w e 1 (.slice (some ⟨g,o,none⟩) m cap) m (xs.take m):=by
 have:=h.cut rfl 0 m Qb hm
 unfold sliced at this;rw [if_neg Qb] at this
 simpa [Addr.add] using this
theorem Reads.srcP {P:Program} {w:World} {e' tx:TypeId} {size:Nat} {v:Value} {n:Nat} {xs:List Value} (h:Reads w size v n xs) (hn:0<n) (hk:P.underlying tx=some (.slice e')) (h1:∀ u∈xs,u.oneCell'=true):Src P size tx v n xs w:=by
 obtain ⟨hl,a,cap,rfl,_,_,h5⟩:=h;obtain ⟨g,off,rfl,_,hc⟩:=h5 hn;exact Src.ofSlice w hk ⟨g,off,none⟩ n cap xs hl (fun j u hu=>by rw [Addr.add_lit]; exact hc j u hu) h1
theorem Row.store {w:World} {e:TypeId} {n cap g o:Nat} {xs:List Value} (h:Row w e 1 (.slice (some ⟨g,o,none⟩) n cap) n xs) (j:Nat) (hj:j<n) (u:Value):Row (w.setCell ⟨g,o+j,none⟩ u) e 1 (.slice (some ⟨g,o,none⟩) n cap) n (xs.set j u):=by
 refine ⟨by rw [List.length_set]; exact h.1,?_⟩
 rcases h.2 with ⟨h0,_⟩|⟨g',off,cap',cur,fz,hv,hg,h1,h2,h3,h4,h5⟩
 ·cases h0
 ·injection hv with ha _ hc;subst hc;injection ha with ha;injection ha with hg' ho;subst hg';subst ho;refine .inr ⟨g,o,cap,cur.setIfInBounds (o+j) u,fz,Z,by simp [World.setCell,Array.getElem?_modify,hg],h1,h2,by simpa using h3,?_,fun j hj=>h5 j (by simpa using hj)⟩;rw [← h4]
  apply List.ext_getElem?
  intro i;have hl:=h.1;rw [← h4] at hl;rw [List.getElem?_take,List.getElem?_set];simp only [Nat.mul_one] at *
  by_cases hi:i<n
  ·rw [if_pos hi,List.getElem?_drop,Array.getElem?_toList,Array.getElem?_setIfInBounds]
   by_cases hij:j=i
   ·subst hij;rw [if_pos rfl,if_pos Qb,if_pos rfl,if_pos Qb]
   ·rw [if_neg Qb,if_neg hij,List.getElem?_take,if_pos hi,List.getElem?_drop,Array.getElem?_toList]
  ·rw [if_neg hi,if_neg Qb,List.getElem?_take,if_neg hi]
end
namespace Sha
def rr (x:UInt32):Nat→UInt32
  | 0=>x
  | n+1=>JY (rr x n) 1
def rotN (x n:Nat):Nat:=x / 2 ^ n+x%2 ^ n*2 ^ (32-n)
theorem Vi (x:UInt32) (n:Nat) (h1:1≤n) (h2:n≤31):(JY x (UInt32.ofNat n)).toNat=rotN x.toNat n:=by
 have hx:=x.toNat_lt
 have e1:(32-UInt32.ofNat n).toNat=32-n:=by
  rw [UInt32.toNat_sub_of_le _ _ (by rw [UInt32.le_iff_toNat_le,UInt32.toNat_ofNat_of_lt' (by simp [UInt32.size]; omega)]; show n≤32; omega),UInt32.toNat_ofNat_of_lt' (by simp [UInt32.size]; omega)]
  rfl
 unfold JY rotN;rw [UInt32.toNat_or,UInt32.toNat_shiftRight,UInt32.toNat_shiftLeft,e1,UInt32.toNat_ofNat_of_lt' (by simp [UInt32.size]; omega),Nat.mod_eq_of_lt (by omega:n<32),Nat.mod_eq_of_lt (by omega:32-n<32)]
 have hp:2 ^ 32=2 ^ n*2 ^ (32-n):=by rw [← Nat.pow_add]; congr 1; omega
 rw [Nat.shiftRight_eq_div_pow,Nat.shiftLeft_eq,hp,Nat.mul_mod_mul_right,Nat.or_comm,← Nat.shiftLeft_eq,← Nat.shiftLeft_add_eq_or_of_lt]
 ·rw [Nat.shiftLeft_eq,Nat.add_comm]
 ·rw [Nat.div_lt_iff_lt_mul (Nat.two_pow_pos n),Nat.mul_comm,← hp];exact hx
theorem Qrf (x n:Nat) (h:n≤30):rotN (rotN x n) 1=rotN x (n+1):=by
 unfold rotN
 have e1:2 ^ (32-n)=2*2 ^ (31-n):=by rw [← Nat.pow_succ']; congr 1; omega
 have e2:x / 2 ^ (n+1)=x / 2 ^ n / 2:=by rw [Nat.pow_succ,← Nat.div_div_eq_div_mul]
 have e3:x%2 ^ (n+1)=x%2 ^ n+2 ^ n*(x / 2 ^ n%2):=by rw [Nat.pow_succ,Nat.mod_mul]
 have e4:2 ^ n*2 ^ (31-n)=2147483648:=by rw [← Nat.pow_add,show n+(31-n)=31 by omega]
 have e5:32-(n+1)=31-n:=by omega
 rw [e1,e2,e3,e5]
 generalize x / 2 ^ n=q
 generalize x%2 ^ n=r
 have e6:r*(2*2 ^ (31-n))=2*(r*2 ^ (31-n)):=by rw [Nat.mul_left_comm]
 have e7:(r+2 ^ n*(q%2))*2 ^ (31-n)=r*2 ^ (31-n)+q%2*2147483648:=by
  rw [Nat.add_mul,Nat.mul_right_comm,e4,Nat.mul_comm 2147483648]
 rw [e6,e7]
 generalize r*2 ^ (31-n)=z
 simp only [Nat.pow_one]
 show _+_*2147483648=_
 omega
theorem Quf (x:UInt32) (n:Nat) (h:n≤31):(rr x n).toNat=rotN x.toNat n:=by
 induction n with
 | zero =>
  have hx:=x.toNat_lt;simp [rr,rotN,Nat.mod_one]
 | succ n ih =>
  rw [rr,show (1:UInt32)=UInt32.ofNat 1 from rfl,Vi _ 1 Qb Qb,ih Qb,Qrf _ _ Qb]
theorem rr_eq (x:UInt32) (n:Nat) (h1:1≤n) (h:n≤31):rr x n=JY x (UInt32.ofNat n):=UInt32.toNat_inj.1 (by rw [Quf x n h,Vi x n h1 h])
theorem Quh (x:UInt32):(x.toNat:Int) / 2+(x.toNat:Int)%2*2147483648=((JY x 1).toNat:Int):=by
 rw [show (1:UInt32)=UInt32.ofNat 1 from rfl,Vi x 1 Qb Qb];unfold rotN;simp only [Nat.pow_one]
 have:(2:Nat) ^ (32-1)=2147483648:=rfl
 rw [this]
 omega
def mv (x:UInt32):Nat→UInt32
  | 0=>x
  | n+1=>mv x n >>> 1
theorem Qut (x:UInt32) (n:Nat):(mv x n).toNat=x.toNat / 2 ^ n:=by
 induction n with
 | zero=>simp [mv]
 | succ n ih =>
  rw [mv,UInt32.toNat_shiftRight,ih,Nat.shiftRight_eq_div_pow]
  show x.toNat / 2 ^ n / 2 ^ 1=_
  rw [Nat.div_div_eq_div_mul,← Nat.pow_add]
theorem mv1_int (x:UInt32):(x.toNat:Int) / 2=((x >>> 1).toNat:Int):=by
 have:=K5 x 1 Qb
 simpa using this
theorem mv_eq (x:UInt32) (n:Nat) (h:n≤31):mv x n=x >>> (UInt32.ofNat n):=UInt32.toNat_inj.1 (by
 rw [Qut,UInt32.toNat_shiftRight,UInt32.toNat_ofNat_of_lt' (by simp [UInt32.size]; omega),Nat.mod_eq_of_lt Qb,Nat.shiftRight_eq_div_pow])
theorem Qtk (n:Nat) (h:n<4294967296):IntKind.i64.wrap (n:Int)=n:=by rw [IntKind.wrap_i64]; omega
theorem Qij (x:UInt32):BitVec.ofInt 64 (x.toNat:Int)=x.toBitVec.setWidth 64:=by
 have:=x.toNat_lt
 rw [BitVec.ofInt_natCast]; apply BitVec.eq_of_toNat_eq; simp
theorem Kr (x y:UInt32):bits .xor .i64 (x.toNat:Int) (y.toNat:Int)=((x ^^^ y).toNat:Int):=by
 show IntKind.i64.wrap ((BitVec.ofInt 64 (x.toNat:Int) ^^^ BitVec.ofInt 64 (y.toNat:Int)).toNat:Int)=_
 rw [Qij,Qij,← BitVec.setWidth_xor,← UInt32.toBitVec_xor,BitVec.toNat_setWidth_of_le Qb];exact Qtk _ (x ^^^ y).toNat_lt
theorem V1 (x y:UInt32):bits .and .i64 (x.toNat:Int) (y.toNat:Int)=((x &&& y).toNat:Int):=by
 show IntKind.i64.wrap ((BitVec.ofInt 64 (x.toNat:Int) &&& BitVec.ofInt 64 (y.toNat:Int)).toNat:Int)=_
 rw [Qij,Qij,← BitVec.setWidth_and,← UInt32.toBitVec_and,BitVec.toNat_setWidth_of_le Qb];exact Qtk _ (x &&& y).toNat_lt
theorem not_i64 (x:UInt32):(4294967295:Int)-(x.toNat:Int)=((~~~x).toNat:Int):=by
 have h:=x.toNat_lt;rw [UInt32.toNat_not]
 show (4294967295:Int)-_=((2 ^ 32-1-x.toNat:Nat):Int)
 omega
theorem Qwc (a b c d:UInt8):(be a b c d).toNat=((a.toNat*256+b.toNat)*256+c.toNat)*256+d.toNat:=by
 have ha:=a.toNat_lt;have hb:=b.toNat_lt;have hc:=c.toNat_lt;have hd:=d.toNat_lt;unfold be;simp only [UInt32.toNat_or,UInt32.toNat_shiftLeft,UInt8.toNat_toUInt32];have e24:(24:UInt32).toNat%32=24:=rfl;have e16:(16:UInt32).toNat%32=16:=rfl;have e8:(8:UInt32).toNat%32=8:=rfl;rw [e24,e16,e8];have f1:a.toNat <<< 24%2 ^ 32=a.toNat <<< 24:=Nat.mod_eq_of_lt (by rw [Nat.shiftLeft_eq]; omega);have f2:b.toNat <<< 16%2 ^ 32=b.toNat <<< 16:=Nat.mod_eq_of_lt (by rw [Nat.shiftLeft_eq]; omega);have f3:c.toNat <<< 8%2 ^ 32=c.toNat <<< 8:=Nat.mod_eq_of_lt (by rw [Nat.shiftLeft_eq]; omega);rw [f1,f2,f3];rw [← Nat.shiftLeft_add_eq_or_of_lt (show b.toNat <<< 16<2 ^ 24 by rw [Nat.shiftLeft_eq]; omega)];rw [show a.toNat <<< 24+b.toNat <<< 16=(a.toNat*256+b.toNat) <<< 16 by simp only [Nat.shiftLeft_eq]; omega];rw [← Nat.shiftLeft_add_eq_or_of_lt (show c.toNat <<< 8<2 ^ 16 by rw [Nat.shiftLeft_eq]; omega)];rw [show (a.toNat*256+b.toNat) <<< 16+c.toNat <<< 8=((a.toNat*256+b.toNat)*256+c.toNat) <<< 8 by simp only [Nat.shiftLeft_eq]; omega];rw [← Nat.shiftLeft_add_eq_or_of_lt (show d.toNat<2 ^ 8 by omega)];simp only [Nat.shiftLeft_eq]
theorem be_ints (a b c d:UInt8):∃ A1 A2 A3 A4 A5:Int,IntKind.i64.wrap (a.toNat:Int)=a.toNat∧IntKind.i64.wrap (b.toNat:Int)=b.toNat∧IntKind.i64.wrap (c.toNat:Int)=c.toNat∧IntKind.i64.wrap (d.toNat:Int)=d.toNat ∧
  IntKind.i64.wrap ((a.toNat:Int)*256)=A1∧IntKind.i64.wrap (A1+b.toNat)=A2∧IntKind.i64.wrap (A2*256)=A3∧IntKind.i64.wrap (A3+c.toNat)=A4∧IntKind.i64.wrap (A4*256)=A5∧IntKind.i64.wrap (A5+d.toNat)=(be a b c d).toNat:=by
 have ha:=a.toNat_lt;have hb:=b.toNat_lt;have hc:=c.toNat_lt;have hd:=d.toNat_lt;have e:=Qwc a b c d
 have wi:∀ n:Int,0≤n→n<4294967296→IntKind.i64.wrap n=n:=fun n h0 h1=>by rw [IntKind.wrap_i64]; omega
 refine ⟨(a.toNat:Int)*256,(a.toNat:Int)*256+b.toNat,((a.toNat:Int)*256+b.toNat)*256,((a.toNat:Int)*256+b.toNat)*256+c.toNat,(((a.toNat:Int)*256+b.toNat)*256+c.toNat)*256,
  wi _ Qb Qb,wi _ Qb Qb,wi _ Qb Qb,wi _ Qb Qb,wi _ Qb Qb,wi _ Qb Qb,wi _ Qb Qb,wi _ Qb Qb,wi _ Qb Qb,?_⟩
 rw [wi _ Qb Qb,e]
 omega
theorem sum4 (a b c d:UInt32):∃ D1 D2 D3:Int,IntKind.i64.wrap ((a.toNat:Int)+b.toNat)=D1∧IntKind.i64.wrap (D1+c.toNat)=D2∧IntKind.i64.wrap (D2+d.toNat)=D3∧Int.tmod D3 4294967296=((a+b+c+d).toNat:Int):=by
 have ha:=a.toNat_lt;have hb:=b.toNat_lt;have hc:=c.toNat_lt;have hd:=d.toNat_lt
 have wi:∀ n:Int,0≤n→n<42949672960→IntKind.i64.wrap n=n:=fun n h0 h1=>by rw [IntKind.wrap_i64]; omega
 refine ⟨(a.toNat:Int)+b.toNat,(a.toNat:Int)+b.toNat+c.toNat,(a.toNat:Int)+b.toNat+c.toNat+d.toNat,wi _ Qb Qb,wi _ Qb Qb,wi _ Qb Qb,?_⟩;rw [Int.tmod_eq_emod_of_nonneg Qb];simp only [UInt32.toNat_add]
 omega
theorem sum2 (a b:UInt32):∃ D1:Int,IntKind.i64.wrap ((a.toNat:Int)+b.toNat)=D1∧Int.tmod D1 4294967296=((a+b).toNat:Int):=by
 have ha:=a.toNat_lt;have hb:=b.toNat_lt
 have wi:∀ n:Int,0≤n→n<42949672960→IntKind.i64.wrap n=n:=fun n h0 h1=>by rw [IntKind.wrap_i64]; omega
 refine ⟨(a.toNat:Int)+b.toNat,wi _ Qb Qb,?_⟩;rw [Int.tmod_eq_emod_of_nonneg Qb];simp only [UInt32.toNat_add]
 omega
theorem sum5 (a b c d e:UInt32):∃ D1 D2 D3 D4:Int,IntKind.i64.wrap ((a.toNat:Int)+b.toNat)=D1∧IntKind.i64.wrap (D1+c.toNat)=D2∧IntKind.i64.wrap (D2+d.toNat)=D3∧IntKind.i64.wrap (D3+e.toNat)=D4∧Int.tmod D4 4294967296=((a+b+c+d+e).toNat:Int):=by
 have ha:=a.toNat_lt;have hb:=b.toNat_lt;have hc:=c.toNat_lt;have hd:=d.toNat_lt;have he:=e.toNat_lt
 have wi:∀ n:Int,0≤n→n<42949672960→IntKind.i64.wrap n=n:=fun n h0 h1=>by rw [IntKind.wrap_i64]; omega
 refine ⟨(a.toNat:Int)+b.toNat,(a.toNat:Int)+b.toNat+c.toNat,(a.toNat:Int)+b.toNat+c.toNat+d.toNat,(a.toNat:Int)+b.toNat+c.toNat+d.toNat+e.toNat,wi _ Qb Qb,wi _ Qb Qb,wi _ Qb Qb,wi _ Qb Qb,?_⟩;rw [Int.tmod_eq_emod_of_nonneg Qb];simp only [UInt32.toNat_add]
 omega
end Sha
section
open Go.RowKit Sha
def iw (x:UInt32):Value:=.int .i64 x.toNat
theorem HU (l:List UInt32):∀ u∈l.map iw,u.oneCell'=true:=by
 intro u hu;obtain ⟨_,_,rfl⟩:=List.mem_map.1 hu
 rfl
theorem Qda (l:List UInt32) (j:Nat) (h:j<l.length):(l.map iw)[j]?=some (.int .i64 (l.getD j 0).toNat):=by
 rw [List.getElem?_map,List.getElem?_eq_getElem h];simp [List.getD,List.getElem?_eq_getElem h]
 rfl
theorem Qrg (x:UInt32) (n:Nat) (w:World) (h1:n≤31) :
  Calls Tryz.prog 176 #[.int .i64 x.toNat,.int .i64 n] w fun e w'=>e=.returned (.int .i64 (rr x n).toNat)∧w=w':=by
 go_enter fz176,Tryz.ntmps176
 go_wp2
 go_loop [0,5] (fun t i=>∃ k:Nat,k≤n∧i=.int .i64 k∧t=.int .i64 (rr x k).toNat) (fun _ i=>n-(intOf i).toNat)
 case atStart=>exact ⟨0,by omega,rfl,rfl⟩
 case round =>
  obtain ⟨k,hk,rfl,rfl⟩:=hrel
  by_cases hlt:k<n
  ·have Hs:Hid (rr x (k+1)=JY (rr x k) 1):=rfl
   generalize rr x k=y at *
   have hs:=Qnh y
   go_wp2
   go_round
   case rel=>exact ⟨k+1,by omega,by go_num,by rw [Hs.out,← Quh]⟩
   case measure=>simp [intOf]; omega
  ·obtain rfl:k=n:=by omega
   have hdec:decide (k<k)=false:=by simp
   go_wp2
   go_ret
   exact ⟨Z,Z⟩
theorem Qrh (x:UInt32) (n:Nat) (w:World) (h1:n≤31) :
  Calls Tryz.prog 177 #[.int .i64 x.toNat,.int .i64 n] w fun e w'=>e=.returned (.int .i64 (mv x n).toNat)∧w=w':=by
 go_enter Tryz.func177,Tryz.ntmps177
 go_wp2
 go_loop [0,5] (fun t i=>∃ k:Nat,k≤n∧i=.int .i64 k∧t=.int .i64 (mv x k).toNat) (fun _ i=>n-(intOf i).toNat)
 case atStart=>exact ⟨0,by omega,rfl,rfl⟩
 case round =>
  obtain ⟨k,hk,rfl,rfl⟩:=hrel
  by_cases hlt:k<n
  ·have Hs:Hid (mv x (k+1)=mv x k >>> 1):=rfl
   generalize mv x k=y at *
   have hs:=Qnh y
   go_wp2
   go_round
   case rel=>exact ⟨k+1,by omega,by go_num,by rw [Hs.out,← mv1_int]; rfl⟩
   case measure=>simp [intOf]; omega
  ·obtain rfl:k=n:=by omega
   have hdec:decide (k<k)=false:=by simp
   go_wp2
   go_ret
   exact ⟨Z,Z⟩
theorem K8 (x:UInt32) (n:Int) (m:Nat) (r:UInt32) (w:World) (hn:n=m) (h1:1≤m) (h2:m≤31) (hr:JY x (UInt32.ofNat m)=r) :
  Calls Tryz.prog 176 #[.int .i64 x.toNat,.int .i64 n] w fun e w'=>e=.returned (.int .i64 r.toNat)∧w=w':=by
 subst hn;subst hr;rw [← rr_eq x m h1 h2];exact Qrg x m w h2
theorem Qpp (x:UInt32) (n:Int) (m:Nat) (r:UInt32) (w:World) (hn:n=m) (h2:m≤31) (hr:x >>> (UInt32.ofNat m)=r) :
  Calls Tryz.prog 177 #[.int .i64 x.toNat,.int .i64 n] w fun e w'=>e=.returned (.int .i64 r.toNat)∧w=w':=by
 subst hn;subst hr;rw [← mv_eq x m h2];exact Qrh x m w h2
theorem info_int:(Tryz.prog.info? 3).map (fun i=>(i.zero,i.size,i.bytes))=some (some (.int .i64 0),1,8):=by kernel_rfl
def Qxo (w:World) (l:List UInt32) (e:Ending) (w':World):Prop :=
  ∃ vo,e=.returned vo∧Row w' 3 1 vo l.length (l.map iw)∧(∀ k,vo.ownBlock=some k→w.heap.size≤k)∧Below w.heap.size w w'
theorem Qen (w:World):Calls Tryz.prog 145 #[] w (Qxo w kTab):=by
 go_enter Tryz.func145,Tryz.ntmps145
 go_wp2
 go_ret
 refine ⟨_,Z,Row.new w 3 1 64 (kTab.map iw).toArray (by simp [maxLen]) Z,?_,(Below.refl _ _).alloc (Nat.le_refl _) _⟩;intro k hk;simp [Value.ownBlock] at hk
 omega
end
section
open Go.RowKit Sha
def Qiv (w0 w:World) (v:Value) (l:List UInt32):Prop:=Row w 3 1 v l.length (l.map iw)∧(∀ k,v.ownBlock=some k→w0.heap.size≤k)∧Below w0.heap.size w0 w
theorem U6 (s:List UInt8) (t:Nat):(Je s t).length=t:=by
 induction t with
 | zero=>rfl
 | succ t ih=>simp [Je,ih]
theorem Qeo (l:List UInt32) (t:Nat):(Zq l t).length=l.length+t:=by
 induction t with
 | zero=>rfl
 | succ t ih=>simp [Zq,ih]; omega
theorem Reads.shape8 {w:World} {size n:Nat} {v:Value} {xs:List Value} (h:Reads w size v n xs) (hn:0<n):∃ g o cap,v=.slice (some ⟨g,o,none⟩) n cap∧n≤cap∧cap≤9223372036854775807:=by
 obtain ⟨_,a,cap,rfl,h1,h2,h5⟩:=h;obtain ⟨g,off,rfl,_,_⟩:=h5 hn;unfold maxLen at h2;exact ⟨g,off,cap,Z,h1,by omega⟩
theorem Qqp (h x:St) (k:Nat) (hk:k<8):(XG h x).words.take (k+1)=(XG h x).words.take k++[h.words.getD k 0+x.words.getD k 0]:=by
 obtain rfl|rfl|rfl|rfl|rfl|rfl|rfl|rfl:k=0∨k=1∨k=2∨k=3∨k=4∨k=5∨k=6∨k=7:=by omega
 all_goals rfl
theorem HX {w wr w5:World} {vo v5:Value} {l l':List UInt32} {x:UInt32} (hn:∀ k,vo.ownBlock=some k→w.heap.size≤k) (hbr:Below w.heap.size w wr)
  (hR5:Row w5 3 1 v5 (l.length+1) (l.map iw++[iw x])) (hC5:Chg (fun k=>vo.ownBlock=some k) (wr.alloc (.cells #[iw x] 3)).drew w5) (hv5:v5.ownBlock=vo.ownBlock∨v5.ownBlock=some (wr.alloc (.cells #[iw x] 3)).drew.heap.size) (hl:l'=l++[x]):Qiv w w5 v5 l':=by
 subst hl;have hsz:=hbr.size;refine ⟨?_,fun k hk=>?_,?_⟩
 ·rw [List.map_append,List.length_append]; exact hR5
 ·rcases hv5 with h|h
  ·exact hn k<|h.symm.trans hk
  ·rw [h] at hk;injection hk with hk;simp at hk
   omega
 ·exact (((Chg.of_below hbr (fun k=>w.heap.size≤k)).alloc _).drew.next hC5 (fun i h=>.inr (hn i h))).below (Nat.le_refl _) (fun k h=>h)
theorem Qri (vh vk:Value) (h:St) (s:ByteArray) (w:World) (hs:s.size=64) (hh:Reads w 1 vh 8 (h.words.map iw)) (hk:Reads w 1 vk 64 (kTab.map iw)) :
  Calls Tryz.prog 146 #[vh,.string s,vk] w (Qxo w (block h s.data.toList).words):=by
 obtain ⟨i1,hi1,hz3,hz4,hz5⟩:=info_parts info_int;have Hs:=Lib.hid hs; clear hs;obtain ⟨gh,oh,caph,rfl,hch1,hch2⟩:=hh.shape8 Qb;obtain ⟨gk,ok,capk,rfl,hck1,hck2⟩:=hk.shape8 Qb;have Hh:=Lib.hid hh; clear hh;have Hk:=Lib.hid hk; clear hk
 go_enter Tryz.func146,Tryz.ntmps146
 go_wp2
 go_loopg [7,8] 16 (fun m vo i wr=>∃ k:Nat,k≤16∧m=16-k∧i=.int .i64 k∧Qiv w wr vo (Je s.data.toList k))
 case atStart=>exact ⟨0,by omega,rfl,rfl,Row.nil _ _ _,(fun k hk=>by simp [Value.ownBlock] at hk),Below.refl _ _⟩
 case round =>
  obtain ⟨k,hk,rfl,rfl,hR,hn,hbr⟩:=hrel;have HR:=Lib.hid hR; clear hR
  by_cases hlt:k<16
  ·have l0:4*k<s.size:=by rw [Hs.out]; omega
   have l1:4*k+1<s.size:=by rw [Hs.out]; omega
   have l2:4*k+2<s.size:=by rw [Hs.out]; omega
   have l3:4*k+3<s.size:=by rw [Hs.out]; omega
   obtain ⟨x0,e0⟩:∃ x,s[4*k]'l0=x:=⟨_,rfl⟩
   obtain ⟨x1,e1⟩:∃ x,s[4*k+1]'l1=x:=⟨_,rfl⟩
   obtain ⟨x2,e2⟩:∃ x,s[4*k+2]'l2=x:=⟨_,rfl⟩
   obtain ⟨x3,e3⟩:∃ x,s[4*k+3]'l3=x:=⟨_,rfl⟩
   obtain ⟨A1,A2,A3,A4,A5,c0,c1,c2,c3,a1,a2,a3,a4,a5,a6⟩:=be_ints x0 x1 x2 x3
   have Hwd:Hid (Qme s.data.toList k=be x0 x1 x2 x3):=by
    show _=_
    unfold Qme;rw [VS s _ l0,VS s _ l1,VS s _ l2,VS s _ l3,e0,e1,e2,e3]
   obtain ⟨B,hB⟩:∃ B,be x0 x1 x2 x3=B:=⟨_,rfl⟩
   rw [hB] at a6 Hwd;clear hB
   have b0:4*(k:Int)<(s.size:Int):=by omega
   have b1:4*(k:Int)+1<(s.size:Int):=by omega
   have b2:4*(k:Int)+2<(s.size:Int):=by omega
   have b3:4*(k:Int)+3<(s.size:Int):=by omega
   have n0:IntKind.i64.wrap (4*(k:Int))=4*(k:Int):=IntWalk.i64_in _ Qb;have n1:IntKind.i64.wrap (4*(k:Int)+1)=4*(k:Int)+1:=IntWalk.i64_in _ Qb;have n2:IntKind.i64.wrap (4*(k:Int)+2)=4*(k:Int)+2:=IntWalk.i64_in _ Qb;have n3:IntKind.i64.wrap (4*(k:Int)+3)=4*(k:Int)+3:=IntWalk.i64_in _ Qb
   have m0:(4*(k:Int)).toNat=4*k:=by omega
   have m1:(4*(k:Int)+1).toNat=4*k+1:=by omega
   have m2:(4*(k:Int)+2).toNat=4*k+2:=by omega
   have m3:(4*(k:Int)+3).toNat=4*k+3:=by omega
   have p0:(0:Int)≤4*(k:Int):=by omega
   have p1:(0:Int)≤4*(k:Int)+1:=by omega
   have p2:(0:Int)≤4*(k:Int)+2:=by omega
   have p3:(0:Int)≤4*(k:Int)+3:=by omega
   go_wp2_with fail
   refine Un (fun _=>True) [true,true,true,true,true,true,true,true,true,true,true,true,true,true,true,true,true,true,true,true,true,true,true,true,true,true,true,true,true,true,false,false,true] Qo Qo (fun c a d v w h=>by cases d <;> exact h) trivial ?_;refine Qh ?_ Z (fun W _=>?_) ?_
   rotate_left
   ·go_simp; with_reducible rfl
   simp only [Act.put,siB,siC,siD];refine Qh ?_ Z (fun W _=>?_) ?_
   rotate_left
   ·go_simp; with_reducible rfl
   simp only [Act.put,siB,siC,siD];refine Qh ?_ Z (fun W _=>?_) ?_
   rotate_left
   ·go_simp; with_reducible rfl
   simp only [Act.put,siB,siC,siD];refine Qh ?_ Z (fun W _=>?_) ?_
   rotate_left
   ·go_simp; with_reducible rfl
   simp only [Act.put,siB,siC,siD];refine Qh ?_ Z (fun W _=>?_) ?_
   rotate_left
   ·go_simp; with_reducible rfl
   simp only [Act.put,siB,siC,siD];refine Qh ?_ Z (fun W _=>?_) ?_
   rotate_left
   ·go_simp; with_reducible rfl
   simp only [Act.put,siB,siC,siD];refine Qh ?_ Z (fun W _=>?_) ?_
   rotate_left
   ·go_simp; with_reducible rfl
   simp only [Act.put,siB,siC,siD];refine Qh ?_ Z (fun W _=>?_) ?_
   rotate_left
   ·go_simp; with_reducible rfl
   simp only [Act.put,siB,siC,siD];refine Qh ?_ Z (fun W _=>?_) ?_
   rotate_left
   ·go_simp; with_reducible rfl
   simp only [Act.put,siB,siC,siD];refine Qh ?_ Z (fun W _=>?_) ?_
   rotate_left
   ·go_simp; with_reducible rfl
   simp only [Act.put,siB,siC,siD];refine Qh ?_ Z (fun W _=>?_) ?_
   rotate_left
   ·go_simp; with_reducible rfl
   simp only [Act.put,siB,siC,siD];refine Qh ?_ Z (fun W _=>?_) ?_
   rotate_left
   ·go_simp; with_reducible rfl
   simp only [Act.put,siB,siC,siD];refine Qh ?_ Z (fun W _=>?_) ?_
   rotate_left
   ·go_simp; with_reducible rfl
   simp only [Act.put,siB,siC,siD];refine Qh ?_ Z (fun W _=>?_) ?_
   rotate_left
   ·go_simp; with_reducible rfl
   simp only [Act.put,siB,siC,siD];refine Qh ?_ Z (fun W _=>?_) ?_
   rotate_left
   ·go_simp; with_reducible rfl
   simp only [Act.put,siB,siC,siD];refine Qh ?_ Z (fun W _=>?_) ?_
   rotate_left
   ·go_simp; with_reducible rfl
   simp only [Act.put,siB,siC,siD];refine Qh ?_ Z (fun W _=>?_) ?_
   rotate_left
   ·go_simp; with_reducible rfl
   simp only [Act.put,siB,siC,siD];refine Qh ?_ Z (fun W _=>?_) ?_
   rotate_left
   ·go_simp; with_reducible rfl
   simp only [Act.put,siB,siC,siD];refine Qh ?_ Z (fun W _=>?_) ?_
   rotate_left
   ·go_simp; with_reducible rfl
   simp only [Act.put,siB,siC,siD];refine Qh ?_ Z (fun W _=>?_) ?_
   rotate_left
   ·go_simp; with_reducible rfl
   simp only [Act.put,siB,siC,siD];refine Qh ?_ Z (fun W _=>?_) ?_
   rotate_left
   ·go_simp; with_reducible rfl
   simp only [Act.put,siB,siC,siD];refine Qh ?_ Z (fun W _=>?_) ?_
   rotate_left
   ·go_simp; with_reducible rfl
   simp only [Act.put,siB,siC,siD];refine Qh ?_ Z (fun W _=>?_) ?_
   rotate_left
   ·go_simp; with_reducible rfl
   simp only [Act.put,siB,siC,siD];refine Qh ?_ Z (fun W _=>?_) ?_
   rotate_left
   ·go_simp; with_reducible rfl
   simp only [Act.put,siB,siC,siD];refine Qh ?_ Z (fun W _=>?_) ?_
   rotate_left
   ·go_simp; with_reducible rfl
   simp only [Act.put,siB,siC,siD];refine Qh ?_ Z (fun W _=>?_) ?_
   rotate_left
   ·go_simp; with_reducible rfl
   simp only [Act.put,siB,siC,siD];refine Qh ?_ Z (fun W _=>?_) ?_
   rotate_left
   ·go_simp; with_reducible rfl
   simp only [Act.put,siB,siC,siD];refine Qh ?_ Z (fun W _=>?_) ?_
   rotate_left
   ·go_simp; with_reducible rfl
   simp only [Act.put,siB,siC,siD];refine Qh ?_ Z (fun W _=>?_) ?_
   rotate_left
   ·go_simp; with_reducible rfl
   simp only [Act.put,siB,siC,siD];refine Qh ?_ Z (fun W _=>?_) ?_
   rotate_left
   ·go_simp; with_reducible rfl
   simp only [Act.put,siB,siC,siD];clear e0 e1 e2 e3 l0 l1 l2 l3 b0 b1 b2 b3 n0 n1 n2 n3 m0 m1 m2 m3 p0 p1 p2 p3 c0 c1 c2 c3 a1 a2 a3 a4 a5 a6;have hwl:=U6 s.data.toList k;refine Hp _ _ Z (by go_simp; exact ⟨Z,Z⟩) trivial ?_;simp only [Act.put,siB,siC,siD]
   refine Ye Z fun K hK=>Uo _ (.tmp 27) (.tmp 57) 42 42 Z 3 i1 _ 1 8 uz42 hi1 hz3 hz4 hz5 Z Qb _ (Je s.data.toList k).length ((Je s.data.toList k).map iw) Z (HR.out.alloc _).drew (.slice (some ⟨wr.heap.size,0,none⟩) 1 1) 1 [iw B] Z (Row.src (Row.new wr 3 1 1 #[iw B] (by simp [maxLen]) Z).drew uz42 (HU [B])) (by simp only [maxLen]; omega) Qb ?_
   intro v5 w5 hR5 hC5 hv5;refine hK _ _ trivial ?_;simp only [Act.put,siB,siC,siD];refine Qh ?_ Z (fun W _=>?_) ?_
   rotate_left
   ·go_simp; with_reducible rfl
   simp only [Act.put,siB,siC,siD];refine Z3 ?_
   go_wp2_with fail
   go_roundg (16-(k+1))
   case measure=>omega
   case rel =>
    refine ⟨k+1,by omega,Z,by go_num,?_⟩;exact HX hn hbr hR5 hC5 hv5 (by rw [Je,Hwd.out])
  ·obtain rfl:k=16:=by omega
   have hdec:decide ((16:Int)<16)=false:=by simp
   go_wp2_with fail
   clear hdec
   go_loopg [7,9] 48 (fun m vo i wr=>∃ (k T:Nat),k≤48∧T=16+k∧m=48-k∧i=.int .i64 T∧Qiv w wr vo (Zq (Je s.data.toList 16) k))
   case atStart=>exact ⟨0,16,by omega,rfl,rfl,rfl,HR.out,hn,hbr⟩
   case round =>
    clear HR hn hbr;obtain ⟨k,T,hk,hT,rfl,rfl,hR,hn,hbr⟩:=hrel;have hlen:=Qeo (Je s.data.toList 16) k;rw [U6,← hT] at hlen
    by_cases hlt:k<48
    ·have Hx:Hid (Zq (Je s.data.toList 16) (k+1)=Zq (Je s.data.toList 16) k++[ext (Zq (Je s.data.toList 16) k) T]):=by
      show _=_
      rw [Zq,hT]
     generalize Zq (Je s.data.toList 16) k=L at *
     have HR:=Lib.hid hR;rw [hlen] at hR;obtain ⟨g,o,cap,rfl,hob,hc1,hc2,hcl,hfr⟩:=hR.form Qb;unfold maxLen at hc2
     have cell:∀ j,j<T→wr.cell? ⟨g,o+j,none⟩=some (.int .i64 (L.getD j 0).toNat):=fun j hj=>hcl j _ (by rw [List.getElem?_map,List.getElem?_eq_getElem Qb]; simp [List.getD,List.getElem?_eq_getElem (show j<L.length by omega)]; rfl)
     have c15:=cell (T-15) Qb;have c2:=cell (T-2) Qb;have c7:=cell (T-7) Qb;have c16:=cell (T-16) Qb;have K7:=Lib.hid (Qda L (T-7) Qb);have K16:=Lib.hid (Qda L (T-16) Qb);have Hext:Hid (ext L T=s1 (L.getD (T-2) 0)+L.getD (T-7) 0+s0 (L.getD (T-15) 0)+L.getD (T-16) 0):=rfl
     have hlL:L.length<100:=by omega
     have HlL:=Lib.hid hlen;have HT:=Lib.hid hT;clear hcl hfr cell hob hR hlen hT
     generalize L.getD (T-15) 0=y15 at *
     generalize L.getD (T-2) 0=y2 at *
     generalize L.getD (T-7) 0=y7 at *
     generalize L.getD (T-16) 0=y16 at *
     have t1:16≤T:=by rw [HT.out]; omega
     have t2:T<64:=by rw [HT.out]; omega
     have n15:IntKind.i64.wrap ((T:Int)-15)=(T:Int)-15:=IntWalk.i64_in _ Qb
     have m15:((T:Int)-15).toNat=T-15:=by omega
     have p15:(15:Int)≤(T:Int):=by omega
     have q15:(T:Int)-15<(T:Int):=by omega
     have n2:IntKind.i64.wrap ((T:Int)-2)=(T:Int)-2:=IntWalk.i64_in _ Qb
     have m2:((T:Int)-2).toNat=T-2:=by omega
     have p2:(2:Int)≤(T:Int):=by omega
     have q2:(T:Int)-2<(T:Int):=by omega
     have n7:IntKind.i64.wrap ((T:Int)-7)=(T:Int)-7:=IntWalk.i64_in _ Qb
     have m7:((T:Int)-7).toNat=T-7:=by omega
     have p7:(7:Int)≤(T:Int):=by omega
     have q7:(T:Int)-7<(T:Int):=by omega
     have n16:IntKind.i64.wrap ((T:Int)-16)=(T:Int)-16:=IntWalk.i64_in _ Qb
     have m16:((T:Int)-16).toNat=T-16:=by omega
     have p16:(16:Int)≤(T:Int):=by omega
     have q16:(T:Int)-16<(T:Int):=by omega
     obtain ⟨r7,Hr7⟩:∃ r,Hid (JY y15 (UInt32.ofNat 7)=r):=⟨_,rfl⟩
     obtain ⟨r18,Hr18⟩:∃ r,Hid (JY y15 (UInt32.ofNat 18)=r):=⟨_,rfl⟩
     obtain ⟨v3,Hv3⟩:∃ r,Hid (y15 >>> (UInt32.ofNat 3)=r):=⟨_,rfl⟩
     obtain ⟨r17,Hr17⟩:∃ r,Hid (JY y2 (UInt32.ofNat 17)=r):=⟨_,rfl⟩
     obtain ⟨r19,Hr19⟩:∃ r,Hid (JY y2 (UInt32.ofNat 19)=r):=⟨_,rfl⟩
     obtain ⟨v10,Hv10⟩:∃ r,Hid (y2 >>> (UInt32.ofNat 10)=r):=⟨_,rfl⟩
     have x1:=Kr r7 r18
     obtain ⟨za,Hza⟩:∃ z,Hid (r7 ^^^ r18=z):=⟨_,rfl⟩
     rw [Hza.out] at x1;have x2:=Kr za v3;have x3:=Kr r17 r19
     obtain ⟨zb,Hzb⟩:∃ z,Hid (r17 ^^^ r19=z):=⟨_,rfl⟩
     rw [Hzb.out] at x3;have x4:=Kr zb v10
     have Hs0:Hid (za ^^^ v3=s0 y15):=by show _=_; rw [← Hza.out,← Hr7.out,← Hr18.out,← Hv3.out]; rfl
     have Hs1:Hid (zb ^^^ v10=s1 y2):=by show _=_; rw [← Hzb.out,← Hr17.out,← Hr19.out,← Hv10.out]; rfl
     rw [Hs0.out] at x2;rw [Hs1.out] at x4;clear Hs0 Hs1 Hza Hzb
     generalize s0 y15=S0 at *
     generalize s1 y2=S1 at *
     obtain ⟨D1,D2,D3,f1,f2,f3,f4⟩:=sum4 S1 y7 S0 y16
     obtain ⟨E,HE⟩:∃ E,Hid (S1+y7+S0+y16=E):=⟨_,rfl⟩
     rw [HE.out] at f4 Hext;clear HE
     go_wp2_with fail
     refine Zt (fun W=>W=wr.drew) [0,1,2,3,4,6,7,8,9,10,13,14,15,16,17,5,11,12,18,19,20] [true,true,true,true,true,true,true,true,true,true,true,true,true,true,true,false,false,true,false,true,true] Qo Qo (fun c a d v w h=>by cases d <;> exact h) Z ?_;simp only [ZG,List.getD_cons_zero,List.getD_cons_succ];refine Qh ?_ Z (fun W hW=>?_) ?_
     rotate_left
     ·subst hW; go_simp; with_reducible rfl
     simp only [Act.put,siB,siC,siD];refine Qh ?_ Z (fun W hW=>?_) ?_
     rotate_left
     ·subst hW; go_simp; with_reducible rfl
     simp only [Act.put,siB,siC,siD];refine Qh ?_ Z (fun W hW=>?_) ?_
     rotate_left
     ·subst hW; go_simp; with_reducible rfl
     simp only [Act.put,siB,siC,siD];refine Qh ?_ Z (fun W hW=>?_) ?_
     rotate_left
     ·subst hW; go_simp; with_reducible rfl
     simp only [Act.put,siB,siC,siD];refine Qh ?_ Z (fun W hW=>?_) ?_
     rotate_left
     ·subst hW; go_simp; with_reducible rfl
     simp only [Act.put,siB,siC,siD];refine Qh ?_ Z (fun W hW=>?_) ?_
     rotate_left
     ·subst hW; go_simp; with_reducible rfl
     simp only [Act.put,siB,siC,siD];refine Qh ?_ Z (fun W hW=>?_) ?_
     rotate_left
     ·subst hW; go_simp; with_reducible rfl
     simp only [Act.put,siB,siC,siD];refine Qh ?_ Z (fun W hW=>?_) ?_
     rotate_left
     ·subst hW; go_simp; with_reducible rfl
     simp only [Act.put,siB,siC,siD];refine Qh ?_ Z (fun W hW=>?_) ?_
     rotate_left
     ·subst hW; go_simp; with_reducible rfl
     simp only [Act.put,siB,siC,siD];refine Qh ?_ Z (fun W hW=>?_) ?_
     rotate_left
     ·subst hW; go_simp; with_reducible rfl
     simp only [Act.put,siB,siC,siD];refine Qh ?_ Z (fun W hW=>?_) ?_
     rotate_left
     ·subst hW; go_simp; with_reducible rfl
     simp only [Act.put,siB,siC,siD];refine Qh ?_ Z (fun W hW=>?_) ?_
     rotate_left
     ·subst hW; go_simp; with_reducible rfl
     simp only [Act.put,siB,siC,siD];refine Qh ?_ Z (fun W hW=>?_) ?_
     rotate_left
     ·subst hW; go_simp; with_reducible rfl
     simp only [Act.put,siB,siC,siD];refine Qh ?_ Z (fun W hW=>?_) ?_
     rotate_left
     ·subst hW; go_simp; with_reducible rfl
     simp only [Act.put,siB,siC,siD];refine Qh ?_ Z (fun W hW=>?_) ?_
     rotate_left
     ·subst hW; go_simp; with_reducible rfl
     simp only [Act.put,siB,siC,siD];refine ZE 176 [.tmp 67,.const (.int .i64 7)] #[3,3] [.int .i64 y15.toNat,.int .i64 7] Z Z fz176 Z Qo Z ((K8 y15 7 7 r7 _ Z Qb Qb Hr7.out).mono ?_);rintro e w' ⟨rfl,rfl⟩;refine ⟨_,Z,Z,?_⟩;simp only [Act.put,siB,siC,siD];refine ZE 176 [.tmp 73,.const (.int .i64 18)] #[3,3] [.int .i64 y15.toNat,.int .i64 18] Z Z fz176 Z Qo Z ((K8 y15 18 18 r18 _ Z Qb Qb Hr18.out).mono ?_);rintro e w' ⟨rfl,rfl⟩;refine ⟨_,Z,Z,?_⟩;simp only [Act.put,siB,siC,siD];refine Qh ?_ Z (fun W hW=>?_) ?_
     rotate_left
     ·subst hW; go_simp; with_reducible rfl
     simp only [Act.put,siB,siC,siD];refine ZE 177 [.tmp 80,.const (.int .i64 3)] #[3,3] [.int .i64 y15.toNat,.int .i64 3] Z Z Tryz.func177 Z Qo Z ((Qpp y15 3 3 v3 _ Z Qb Hv3.out).mono ?_);rintro e w' ⟨rfl,rfl⟩;refine ⟨_,Z,Z,?_⟩;simp only [Act.put,siB,siC,siD];refine Qh ?_ Z (fun W hW=>?_) ?_
     rotate_left
     ·subst hW; go_simp; with_reducible rfl
     simp only [Act.put,siB,siC,siD];refine Qh ?_ Z (fun W hW=>?_) ?_
     rotate_left
     ·subst hW; go_simp; with_reducible rfl
     simp only [Act.put,siB,siC,siD];refine Z3 ?_;clear Hr7 Hr18 Hv3 x1 x2 c15 n15 m15 p15 q15
     go_wp2_with fail
     refine Zt (fun W=>W=wr.drew.drew) [0,1,2,3,4,6,7,8,9,10,13,14,15,16,17,5,11,12,18,19,20] [true,true,true,true,true,true,true,true,true,true,true,true,true,true,true,false,false,true,false,true,true] Qo Qo (fun c a d v w h=>by cases d <;> exact h) Z ?_;simp only [ZG,List.getD_cons_zero,List.getD_cons_succ];refine Qh ?_ Z (fun W hW=>?_) ?_
     rotate_left
     ·subst hW; go_simp; with_reducible rfl
     simp only [Act.put,siB,siC,siD];refine Qh ?_ Z (fun W hW=>?_) ?_
     rotate_left
     ·subst hW; go_simp; with_reducible rfl
     simp only [Act.put,siB,siC,siD];refine Qh ?_ Z (fun W hW=>?_) ?_
     rotate_left
     ·subst hW; go_simp; with_reducible rfl
     simp only [Act.put,siB,siC,siD];refine Qh ?_ Z (fun W hW=>?_) ?_
     rotate_left
     ·subst hW; go_simp; with_reducible rfl
     simp only [Act.put,siB,siC,siD];refine Qh ?_ Z (fun W hW=>?_) ?_
     rotate_left
     ·subst hW; go_simp; with_reducible rfl
     simp only [Act.put,siB,siC,siD];refine Qh ?_ Z (fun W hW=>?_) ?_
     rotate_left
     ·subst hW; go_simp; with_reducible rfl
     simp only [Act.put,siB,siC,siD];refine Qh ?_ Z (fun W hW=>?_) ?_
     rotate_left
     ·subst hW; go_simp; with_reducible rfl
     simp only [Act.put,siB,siC,siD];refine Qh ?_ Z (fun W hW=>?_) ?_
     rotate_left
     ·subst hW; go_simp; with_reducible rfl
     simp only [Act.put,siB,siC,siD];refine Qh ?_ Z (fun W hW=>?_) ?_
     rotate_left
     ·subst hW; go_simp; with_reducible rfl
     simp only [Act.put,siB,siC,siD];refine Qh ?_ Z (fun W hW=>?_) ?_
     rotate_left
     ·subst hW; go_simp; with_reducible rfl
     simp only [Act.put,siB,siC,siD];refine Qh ?_ Z (fun W hW=>?_) ?_
     rotate_left
     ·subst hW; go_simp; with_reducible rfl
     simp only [Act.put,siB,siC,siD];refine Qh ?_ Z (fun W hW=>?_) ?_
     rotate_left
     ·subst hW; go_simp; with_reducible rfl
     simp only [Act.put,siB,siC,siD];refine Qh ?_ Z (fun W hW=>?_) ?_
     rotate_left
     ·subst hW; go_simp; with_reducible rfl
     simp only [Act.put,siB,siC,siD];refine Qh ?_ Z (fun W hW=>?_) ?_
     rotate_left
     ·subst hW; go_simp; with_reducible rfl
     simp only [Act.put,siB,siC,siD];refine Qh ?_ Z (fun W hW=>?_) ?_
     rotate_left
     ·subst hW; go_simp; with_reducible rfl
     simp only [Act.put,siB,siC,siD];refine ZE 176 [.tmp 87,.const (.int .i64 17)] #[3,3] [.int .i64 y2.toNat,.int .i64 17] Z Z fz176 Z Qo Z ((K8 y2 17 17 r17 _ Z Qb Qb Hr17.out).mono ?_);rintro e w' ⟨rfl,rfl⟩;refine ⟨_,Z,Z,?_⟩;simp only [Act.put,siB,siC,siD];refine ZE 176 [.tmp 93,.const (.int .i64 19)] #[3,3] [.int .i64 y2.toNat,.int .i64 19] Z Z fz176 Z Qo Z ((K8 y2 19 19 r19 _ Z Qb Qb Hr19.out).mono ?_);rintro e w' ⟨rfl,rfl⟩;refine ⟨_,Z,Z,?_⟩;simp only [Act.put,siB,siC,siD];refine Qh ?_ Z (fun W hW=>?_) ?_
     rotate_left
     ·subst hW; go_simp; with_reducible rfl
     simp only [Act.put,siB,siC,siD];refine ZE 177 [.tmp 100,.const (.int .i64 10)] #[3,3] [.int .i64 y2.toNat,.int .i64 10] Z Z Tryz.func177 Z Qo Z ((Qpp y2 10 10 v10 _ Z Qb Hv10.out).mono ?_);rintro e w' ⟨rfl,rfl⟩;refine ⟨_,Z,Z,?_⟩;simp only [Act.put,siB,siC,siD];refine Qh ?_ Z (fun W hW=>?_) ?_
     rotate_left
     ·subst hW; go_simp; with_reducible rfl
     simp only [Act.put,siB,siC,siD];refine Qh ?_ Z (fun W hW=>?_) ?_
     rotate_left
     ·subst hW; go_simp; with_reducible rfl
     simp only [Act.put,siB,siC,siD];refine Z3 ?_;clear Hr17 Hr19 Hv10 x3 x4 c2 n2 m2 p2 q2
     go_wp2_with fail
     have HR3:Hid (Row wr.drew.drew 3 1 (.slice (some ⟨g,o,none⟩) T cap) T (L.map iw)):=by
      have:=HR.out.drew.drew
      rw [HlL.out] at this;exact this
     clear c7 c16
     generalize hw2:wr.drew.drew=w2 at *
     refine Un (fun W=>Row W 3 1 (.slice (some ⟨g,o,none⟩) T cap) T (L.map iw)) [true,true,true,true,true,true,true,true,true,true,true,true,true,true,true,true,true,false,false,true] Qo Qo (fun c a d v w h=>by cases d <;> exact h) HR3.out.drew ?_;refine Qh ?_ Z (fun W _=>?_) ?_
     rotate_left
     ·go_simp; with_reducible rfl
     simp only [Act.put,siB,siC,siD];refine Qh ?_ Z (fun W _=>?_) ?_
     rotate_left
     ·go_simp; with_reducible rfl
     simp only [Act.put,siB,siC,siD];refine Qh ?_ Z (fun W _=>?_) ?_
     rotate_left
     ·go_simp; with_reducible rfl
     simp only [Act.put,siB,siC,siD];refine Qh ?_ Z (fun W _=>?_) ?_
     rotate_left
     ·go_simp; with_reducible rfl
     simp only [Act.put,siB,siC,siD];refine Qh ?_ Z (fun W _=>?_) ?_
     rotate_left
     ·go_simp; with_reducible rfl
     simp only [Act.put,siB,siC,siD];refine Qh ?_ Z (fun W _=>?_) ?_
     rotate_left
     ·go_simp; with_reducible rfl
     simp only [Act.put,siB,siC,siD];refine Qh ?_ Z (fun W hW=>?_) ?_
     rotate_left
     ·have hc:=hW.at_ K7.out
      go_simp; with_reducible rfl
     simp only [Act.put,siB,siC,siD];refine Qh ?_ Z (fun W _=>?_) ?_
     rotate_left
     ·go_simp; with_reducible rfl
     simp only [Act.put,siB,siC,siD];refine Qh ?_ Z (fun W _=>?_) ?_
     rotate_left
     ·go_simp; with_reducible rfl
     simp only [Act.put,siB,siC,siD];refine Qh ?_ Z (fun W _=>?_) ?_
     rotate_left
     ·go_simp; with_reducible rfl
     simp only [Act.put,siB,siC,siD];refine Qh ?_ Z (fun W _=>?_) ?_
     rotate_left
     ·go_simp; with_reducible rfl
     simp only [Act.put,siB,siC,siD];refine Qh ?_ Z (fun W _=>?_) ?_
     rotate_left
     ·go_simp; with_reducible rfl
     simp only [Act.put,siB,siC,siD];refine Qh ?_ Z (fun W _=>?_) ?_
     rotate_left
     ·go_simp; with_reducible rfl
     simp only [Act.put,siB,siC,siD];refine Qh ?_ Z (fun W _=>?_) ?_
     rotate_left
     ·go_simp; with_reducible rfl
     simp only [Act.put,siB,siC,siD];refine Qh ?_ Z (fun W hW=>?_) ?_
     rotate_left
     ·have hc:=hW.at_ K16.out
      go_simp; with_reducible rfl
     simp only [Act.put,siB,siC,siD];refine Qh ?_ Z (fun W _=>?_) ?_
     rotate_left
     ·go_simp; with_reducible rfl
     simp only [Act.put,siB,siC,siD];refine Qh ?_ Z (fun W _=>?_) ?_
     rotate_left
     ·go_simp; with_reducible rfl
     simp only [Act.put,siB,siC,siD];refine Hp _ _ Z (by go_simp; exact ⟨Z,Z⟩) (HR3.out.alloc _).drew ?_;simp only [Act.put,siB,siC,siD]
     refine Ye Z fun K hK=>Qbr _ (.tmp 103) (.tmp 120) 42 42 Z 3 i1 _ 1 8 uz42 hi1 hz3 hz4 hz5 Z Qb _ T (L.map iw) Z (HR3.out.alloc _).drew (.slice (some ⟨w2.heap.size,0,none⟩) 1 1) 1 [iw E] Z (Row.src (Row.new w2 3 1 1 #[iw E] (by simp [maxLen]) Z).drew uz42 (HU [E])) (by simp only [maxLen]; omega) Qb ?_
     intro v5 w5 hR5 hC5 hv5 hR6;refine hK _ _ hR6 ?_;clear hR6;simp only [Act.put,siB,siC,siD];refine Qh ?_ Z (fun W _=>?_) ?_
     rotate_left
     ·go_simp; with_reducible rfl
     simp only [Act.put,siB,siC,siD];refine Z3 ?_;clear n7 m7 p7 q7 n16 m16 p16 q16 f1 f2 f3 f4
     go_wp2_with fail
     go_roundg (48-(k+1))
     case measure=>omega
     case rel =>
      have hbr2:Below w.heap.size w w2:=by rw [← hw2]; exact Uk hbr 2
      refine ⟨k+1,T+1,by omega,by rw [HT.out]; omega,Z,by go_num,?_⟩;rw [← HlL.out] at hR5;exact HX hn hbr2 hR5 hC5 hv5 (by rw [Hx.out,Hext.out])
    ·obtain rfl:k=48:=by omega
     obtain rfl:T=64:=by omega
     have hdec:decide ((64:Int)<64)=false:=by simp
     have HR:=Lib.hid hR;rw [hlen] at hR;obtain ⟨g7,o7,cap7,rfl,hob,hc1,hc2,hcl,hfr⟩:=hR.form Qb;unfold maxLen at hc2;clear hob hcl hfr;have HS7:Hid (Row wr 3 1 (.slice (some ⟨g7,o7,none⟩) 64 cap7) 64 ((Yv s.data.toList).map iw)):=hR;have HlS:Hid ((Yv s.data.toList).length=64):=hlen;have Hbl:Hid (block h s.data.toList=XG h (J2 (Yv s.data.toList) h 64)):=rfl;clear hR HR hlen
     generalize Yv s.data.toList=WS at *
     go_wp2_with (at_builtin; (refine Jv _ rfl (.tmp 122) (.tmp 123) 42 42 rfl 3 i1 _ 1 8 uz42 hi1 hz3 hz4 hz5 rfl Qb (.slice none 0 0) 0 [] rfl (Row.nil _ _ _) (.slice (some ⟨gh,oh,none⟩) 8 caph) 8 (h.words.map iw) rfl ((Hh.out.belowAll hbr).srcP Qb uz42 (HU _)) (by simp only [maxLen]; omega) Qb ?_); intro v12 w3 hR12 hC12 hv12)
     have hb3:Below wr.heap.size wr w3:=hC12.below (Nat.le_refl _) (fun k h=>by simp [Value.ownBlock] at h);have HS3:=Lib.hid (HS7.out.belowAll hb3);have Hh3:=Lib.hid ((Hh.out.belowAll hbr).belowAll hb3);have Hk3:=Lib.hid ((Hk.out.belowAll hbr).belowAll hb3);have hbw3:=Zm hbr hb3 (Nat.le_refl _);clear HS7 hC12 hv12 hb3 hbr hdec hn hk hlt
     go_loopg [12,13] 64 (fun m vo i w4=>∃ (k:Nat),k≤64∧m=64-k∧i=.int .i64 k∧Row w4 3 1 vo 8 ((J2 WS h k).words.map iw)∧Below w3.heap.size w3 w4)
     case atStart=>exact ⟨0,by omega,rfl,rfl,(by have:=hR12; simp only [Nat.zero_add,List.nil_append] at this; exact this),Below.refl _ _⟩
     case round =>
      clear hR12;obtain ⟨k,hk,rfl,rfl,hR,hb4⟩:=hrel
      by_cases hlt:k<64
      ·-- LOOP3
       have Hx:Hid (J2 WS h (k+1)=round (J2 WS h k) (kTab.getD k 0) (WS.getD k 0)):=rfl
       generalize J2 WS h k=x at *
       obtain ⟨xa,xb,xc,xd,xe,xf,xg,xh⟩:=x;have HV:=Lib.hid hR;obtain ⟨gv,ov,capv,rfl,hob,hv1,hv2,hcl,hfr⟩:=hR.form Qb;unfold maxLen at hv2;clear hob hcl hfr hR
       have cv0:wr.cell? ⟨gv,ov,none⟩=some (.int .i64 xa.toNat):=HV.out.at_ (j:=0) rfl
       have cv1:wr.cell? ⟨gv,ov+1,none⟩=some (.int .i64 xb.toNat):=HV.out.at_ (j:=1) rfl
       have cv2:wr.cell? ⟨gv,ov+2,none⟩=some (.int .i64 xc.toNat):=HV.out.at_ (j:=2) rfl
       have cv4:wr.cell? ⟨gv,ov+4,none⟩=some (.int .i64 xe.toNat):=HV.out.at_ (j:=4) rfl
       have cv5:wr.cell? ⟨gv,ov+5,none⟩=some (.int .i64 xf.toNat):=HV.out.at_ (j:=5) rfl
       have cv6:wr.cell? ⟨gv,ov+6,none⟩=some (.int .i64 xg.toNat):=HV.out.at_ (j:=6) rfl
       have cv7:wr.cell? ⟨gv,ov+7,none⟩=some (.int .i64 xh.toNat):=HV.out.at_ (j:=7) rfl
       have ck:=(Hk3.out.belowAll hb4).at_ Qb (Qda kTab k (by show k<64; omega))
       have cw:=(HS3.out.belowAll hb4).at_ (Qda WS k (by rw [HlS.out]; omega))
       generalize kTab.getD k 0=kk at *
       generalize WS.getD k 0=ww at *
       have jl:(k:Int)<64:=by omega
       have e1:=V1 xe xf
       obtain ⟨u1,Hu1⟩:∃ r,Hid (xe &&& xf=r):=⟨_,rfl⟩
       rw [Hu1.out] at e1
       have e2:IntKind.i64.wrap (4294967295-(xe.toNat:Int))=((~~~xe).toNat:Int):=by
        rw [not_i64]; exact Qtk _ (~~~xe).toNat_lt
       obtain ⟨ne,Hne⟩:∃ r,Hid (~~~xe=r):=⟨_,rfl⟩
       rw [Hne.out] at e2;have e3:=V1 ne xg
       obtain ⟨u2,Hu2⟩:∃ r,Hid (ne &&& xg=r):=⟨_,rfl⟩
       rw [Hu2.out] at e3;have e4:=Kr u1 u2
       obtain ⟨ch,Hch⟩:∃ r,Hid (u1 ^^^ u2=r):=⟨_,rfl⟩
       rw [Hch.out] at e4
       obtain ⟨xer6,Hxer6⟩:∃ r,Hid (JY xe (UInt32.ofNat 6)=r):=⟨_,rfl⟩
       obtain ⟨xer11,Hxer11⟩:∃ r,Hid (JY xe (UInt32.ofNat 11)=r):=⟨_,rfl⟩
       obtain ⟨xer25,Hxer25⟩:∃ r,Hid (JY xe (UInt32.ofNat 25)=r):=⟨_,rfl⟩
       have e5:=Kr xer6 xer11
       obtain ⟨z1,Hz1⟩:∃ r,Hid (xer6 ^^^ xer11=r):=⟨_,rfl⟩
       rw [Hz1.out] at e5;have e6:=Kr z1 xer25
       obtain ⟨z2,Hz2⟩:∃ r,Hid (z1 ^^^ xer25=r):=⟨_,rfl⟩
       rw [Hz2.out] at e6;obtain ⟨D1,D2,D3,D4,f1,f2,f3,f4,f5⟩:=sum5 xh z2 ch kk ww
       obtain ⟨T1,HT1⟩:∃ r,Hid (xh+z2+ch+kk+ww=r):=⟨_,rfl⟩
       rw [HT1.out] at f5;have e7:=V1 xa xb
       obtain ⟨p1,Hp1⟩:∃ r,Hid (xa &&& xb=r):=⟨_,rfl⟩
       rw [Hp1.out] at e7;have e8:=V1 xa xc
       obtain ⟨p2,Hp2⟩:∃ r,Hid (xa &&& xc=r):=⟨_,rfl⟩
       rw [Hp2.out] at e8;have e9:=Kr p1 p2
       obtain ⟨p3,Hp3⟩:∃ r,Hid (p1 ^^^ p2=r):=⟨_,rfl⟩
       rw [Hp3.out] at e9;have e10:=V1 xb xc
       obtain ⟨p4,Hp4⟩:∃ r,Hid (xb &&& xc=r):=⟨_,rfl⟩
       rw [Hp4.out] at e10;have e11:=Kr p3 p4
       obtain ⟨mj,Hmj⟩:∃ r,Hid (p3 ^^^ p4=r):=⟨_,rfl⟩
       rw [Hmj.out] at e11
       obtain ⟨xar2,Hxar2⟩:∃ r,Hid (JY xa (UInt32.ofNat 2)=r):=⟨_,rfl⟩
       obtain ⟨xar13,Hxar13⟩:∃ r,Hid (JY xa (UInt32.ofNat 13)=r):=⟨_,rfl⟩
       obtain ⟨xar22,Hxar22⟩:∃ r,Hid (JY xa (UInt32.ofNat 22)=r):=⟨_,rfl⟩
       have e12:=Kr xar2 xar13
       obtain ⟨z3,Hz3⟩:∃ r,Hid (xar2 ^^^ xar13=r):=⟨_,rfl⟩
       rw [Hz3.out] at e12;have e13:=Kr z3 xar22
       obtain ⟨z4,Hz4⟩:∃ r,Hid (z3 ^^^ xar22=r):=⟨_,rfl⟩
       rw [Hz4.out] at e13
       have HTe:Hid (t1 ⟨xa,xb,xc,xd,xe,xf,xg,xh⟩ kk ww=T1):=by
        show _=_
        rw [← HT1.out,← Hz2.out,← Hz1.out,← Hxer6.out,← Hxer11.out,← Hxer25.out,← Hch.out,← Hu1.out,← Hu2.out,← Hne.out]; rfl
       obtain ⟨G14,g14,e14⟩:=sum2 z4 mj
       obtain ⟨T2,HT2⟩:∃ r,Hid (z4+mj=r):=⟨_,rfl⟩
       rw [HT2.out] at e14
       have HTf:Hid (t2 ⟨xa,xb,xc,xd,xe,xf,xg,xh⟩=T2):=by
        show _=_
        rw [← HT2.out,← Hz4.out,← Hz3.out,← Hxar2.out,← Hxar13.out,← Hxar22.out,← Hmj.out,← Hp3.out,← Hp1.out,← Hp2.out,← Hp4.out]; rfl
       obtain ⟨G15,g15,e15⟩:=sum2 T1 T2
       obtain ⟨NA,HNA⟩:∃ r,Hid (T1+T2=r):=⟨_,rfl⟩
       rw [HNA.out] at e15;obtain ⟨G16,g16,e16⟩:=sum2 xd T1
       obtain ⟨NE,HNE⟩:∃ r,Hid (xd+T1=r):=⟨_,rfl⟩
       rw [HNE.out] at e16
       have Hrd:Hid (round ⟨xa,xb,xc,xd,xe,xf,xg,xh⟩ kk ww=⟨NA,xa,xb,xc,NE,xe,xf,xg⟩):=by
        show _=_
        unfold round;rw [HTe.out,HTf.out,HNA.out,HNE.out]
       clear Hz1 Hz2 Hz3 Hz4 Hch Hu1 Hu2 Hne HT1 HT2 Hmj Hp1 Hp2 Hp3 Hp4 HTe HTf HNA HNE;have E14:=Lib.hid (And.intro g14 e14); clear g14 e14;have E15:=Lib.hid (And.intro g15 e15); clear g15 e15;have E16:=Lib.hid (And.intro g16 e16); clear g16 e16
       go_wp2_with fail
       refine Zt (fun W=>W=wr.drew) [0,1,2,3,4,5,6,7,8,9,10,11,12] [true,true,true,true,true,true,true,true,true,true,true,true,true] Qo Qo (fun c a d v w h=>by cases d <;> exact h) Z ?_;simp only [ZG,List.getD_cons_zero,List.getD_cons_succ];refine Qh ?_ Z (fun W hW=>?_) ?_
       rotate_left
       ·subst hW; go_simp; with_reducible rfl
       simp only [Act.put,siB,siC,siD];refine Qh ?_ Z (fun W hW=>?_) ?_
       rotate_left
       ·subst hW; go_simp; with_reducible rfl
       simp only [Act.put,siB,siC,siD];refine Qh ?_ Z (fun W hW=>?_) ?_
       rotate_left
       ·subst hW; go_simp; with_reducible rfl
       simp only [Act.put,siB,siC,siD];refine Qh ?_ Z (fun W hW=>?_) ?_
       rotate_left
       ·subst hW; go_simp; with_reducible rfl
       simp only [Act.put,siB,siC,siD];refine Qh ?_ Z (fun W hW=>?_) ?_
       rotate_left
       ·subst hW; go_simp; with_reducible rfl
       simp only [Act.put,siB,siC,siD];refine Qh ?_ Z (fun W hW=>?_) ?_
       rotate_left
       ·subst hW; go_simp; with_reducible rfl
       simp only [Act.put,siB,siC,siD];refine Qh ?_ Z (fun W hW=>?_) ?_
       rotate_left
       ·subst hW; go_simp; with_reducible rfl
       simp only [Act.put,siB,siC,siD];refine Qh ?_ Z (fun W hW=>?_) ?_
       rotate_left
       ·subst hW; go_simp; with_reducible rfl
       simp only [Act.put,siB,siC,siD];refine Qh ?_ Z (fun W hW=>?_) ?_
       rotate_left
       ·subst hW; go_simp; with_reducible rfl
       simp only [Act.put,siB,siC,siD];refine Qh ?_ Z (fun W hW=>?_) ?_
       rotate_left
       ·subst hW; go_simp; with_reducible rfl
       simp only [Act.put,siB,siC,siD];refine Qh ?_ Z (fun W hW=>?_) ?_
       rotate_left
       ·subst hW; go_simp; with_reducible rfl
       simp only [Act.put,siB,siC,siD];refine Qh ?_ Z (fun W hW=>?_) ?_
       rotate_left
       ·subst hW; go_simp; with_reducible rfl
       simp only [Act.put,siB,siC,siD];refine Qh ?_ Z (fun W hW=>?_) ?_
       rotate_left
       ·subst hW; go_simp; with_reducible rfl
       simp only [Act.put,siB,siC,siD];refine Z3 ?_;clear e1 e2 e3 e4 cv5 cv6
       go_wp2_with fail
       refine Zt (fun W=>W=wr.drew.drew) [0,1,2,3,5,8,12,14,15,16,17,19,20,21,22,4,6,7,9,10,11,13,18,23,24,25] [true,true,true,true,true,true,true,true,true,true,true,true,true,true,true,false,false,true,false,true,true,true,true,true,true,true] Qo Qo (fun c a d v w h=>by cases d <;> exact h) Z ?_;simp only [ZG,List.getD_cons_zero,List.getD_cons_succ];refine Qh ?_ Z (fun W hW=>?_) ?_
       rotate_left
       ·subst hW; go_simp; with_reducible rfl
       simp only [Act.put,siB,siC,siD];refine Qh ?_ Z (fun W hW=>?_) ?_
       rotate_left
       ·subst hW; go_simp; with_reducible rfl
       simp only [Act.put,siB,siC,siD];refine Qh ?_ Z (fun W hW=>?_) ?_
       rotate_left
       ·subst hW; go_simp; with_reducible rfl
       simp only [Act.put,siB,siC,siD];refine Qh ?_ Z (fun W hW=>?_) ?_
       rotate_left
       ·subst hW; go_simp; with_reducible rfl
       simp only [Act.put,siB,siC,siD];refine Qh ?_ Z (fun W hW=>?_) ?_
       rotate_left
       ·subst hW; go_simp; with_reducible rfl
       simp only [Act.put,siB,siC,siD];refine Qh ?_ Z (fun W hW=>?_) ?_
       rotate_left
       ·subst hW; go_simp; with_reducible rfl
       simp only [Act.put,siB,siC,siD];refine Qh ?_ Z (fun W hW=>?_) ?_
       rotate_left
       ·subst hW; go_simp; with_reducible rfl
       simp only [Act.put,siB,siC,siD];refine Qh ?_ Z (fun W hW=>?_) ?_
       rotate_left
       ·subst hW; go_simp; with_reducible rfl
       simp only [Act.put,siB,siC,siD];refine Qh ?_ Z (fun W hW=>?_) ?_
       rotate_left
       ·subst hW; go_simp; with_reducible rfl
       simp only [Act.put,siB,siC,siD];refine Qh ?_ Z (fun W hW=>?_) ?_
       rotate_left
       ·subst hW; go_simp; with_reducible rfl
       simp only [Act.put,siB,siC,siD];refine Qh ?_ Z (fun W hW=>?_) ?_
       rotate_left
       ·subst hW; go_simp; with_reducible rfl
       simp only [Act.put,siB,siC,siD];refine Qh ?_ Z (fun W hW=>?_) ?_
       rotate_left
       ·subst hW; go_simp; with_reducible rfl
       simp only [Act.put,siB,siC,siD];refine Qh ?_ Z (fun W hW=>?_) ?_
       rotate_left
       ·subst hW; go_simp; with_reducible rfl
       simp only [Act.put,siB,siC,siD];refine Qh ?_ Z (fun W hW=>?_) ?_
       rotate_left
       ·subst hW; go_simp; with_reducible rfl
       simp only [Act.put,siB,siC,siD];refine Qh ?_ Z (fun W hW=>?_) ?_
       rotate_left
       ·subst hW; go_simp; with_reducible rfl
       simp only [Act.put,siB,siC,siD];refine ZE 176 [.tmp 150,.const (.int .i64 6)] #[3,3] [.int .i64 xe.toNat,.int .i64 6] Z Z fz176 Z Qo Z ((K8 xe 6 6 xer6 _ Z Qb Qb Hxer6.out).mono ?_);rintro e w' ⟨rfl,rfl⟩;refine ⟨_,Z,Z,?_⟩;simp only [Act.put,siB,siC,siD];refine ZE 176 [.tmp 152,.const (.int .i64 11)] #[3,3] [.int .i64 xe.toNat,.int .i64 11] Z Z fz176 Z Qo Z ((K8 xe 11 11 xer11 _ Z Qb Qb Hxer11.out).mono ?_);rintro e w' ⟨rfl,rfl⟩;refine ⟨_,Z,Z,?_⟩;simp only [Act.put,siB,siC,siD];refine Qh ?_ Z (fun W hW=>?_) ?_
       rotate_left
       ·subst hW; go_simp; with_reducible rfl
       simp only [Act.put,siB,siC,siD];refine ZE 176 [.tmp 155,.const (.int .i64 25)] #[3,3] [.int .i64 xe.toNat,.int .i64 25] Z Z fz176 Z Qo Z ((K8 xe 25 25 xer25 _ Z Qb Qb Hxer25.out).mono ?_);rintro e w' ⟨rfl,rfl⟩;refine ⟨_,Z,Z,?_⟩;simp only [Act.put,siB,siC,siD];refine Qh ?_ Z (fun W hW=>?_) ?_
       rotate_left
       ·subst hW; go_simp; with_reducible rfl
       simp only [Act.put,siB,siC,siD];refine Qh ?_ Z (fun W hW=>?_) ?_
       rotate_left
       ·subst hW; go_simp; with_reducible rfl
       simp only [Act.put,siB,siC,siD];refine Qh ?_ Z (fun W hW=>?_) ?_
       rotate_left
       ·subst hW; go_simp; with_reducible rfl
       simp only [Act.put,siB,siC,siD];refine Qh ?_ Z (fun W hW=>?_) ?_
       rotate_left
       ·subst hW; go_simp; with_reducible rfl
       simp only [Act.put,siB,siC,siD];refine Qh ?_ Z (fun W hW=>?_) ?_
       rotate_left
       ·subst hW; go_simp; with_reducible rfl
       simp only [Act.put,siB,siC,siD];refine Qh ?_ Z (fun W hW=>?_) ?_
       rotate_left
       ·subst hW; go_simp; with_reducible rfl
       simp only [Act.put,siB,siC,siD];refine Qh ?_ Z (fun W hW=>?_) ?_
       rotate_left
       ·subst hW; go_simp; with_reducible rfl
       simp only [Act.put,siB,siC,siD];refine Z3 ?_;clear e5 e6 f1 f2 f3 f4 f5 ck cw cv7
       go_wp2_with fail
       refine Zt (fun W=>W=wr.drew.drew.drew) [0,1,2,3,4,5,6,7,8,9,10,11,12,13,14,15,16,17,18,19] [true,true,true,true,true,true,true,true,true,true,true,true,true,true,true,true,true,true,true,true] Qo Qo (fun c a d v w h=>by cases d <;> exact h) Z ?_;simp only [ZG,List.getD_cons_zero,List.getD_cons_succ];refine Qh ?_ Z (fun W hW=>?_) ?_
       rotate_left
       ·subst hW; go_simp; with_reducible rfl
       simp only [Act.put,siB,siC,siD];refine Qh ?_ Z (fun W hW=>?_) ?_
       rotate_left
       ·subst hW; go_simp; with_reducible rfl
       simp only [Act.put,siB,siC,siD];refine Qh ?_ Z (fun W hW=>?_) ?_
       rotate_left
       ·subst hW; go_simp; with_reducible rfl
       simp only [Act.put,siB,siC,siD];refine Qh ?_ Z (fun W hW=>?_) ?_
       rotate_left
       ·subst hW; go_simp; with_reducible rfl
       simp only [Act.put,siB,siC,siD];refine Qh ?_ Z (fun W hW=>?_) ?_
       rotate_left
       ·subst hW; go_simp; with_reducible rfl
       simp only [Act.put,siB,siC,siD];refine Qh ?_ Z (fun W hW=>?_) ?_
       rotate_left
       ·subst hW; go_simp; with_reducible rfl
       simp only [Act.put,siB,siC,siD];refine Qh ?_ Z (fun W hW=>?_) ?_
       rotate_left
       ·subst hW; go_simp; with_reducible rfl
       simp only [Act.put,siB,siC,siD];refine Qh ?_ Z (fun W hW=>?_) ?_
       rotate_left
       ·subst hW; go_simp; with_reducible rfl
       simp only [Act.put,siB,siC,siD];refine Qh ?_ Z (fun W hW=>?_) ?_
       rotate_left
       ·subst hW; go_simp; with_reducible rfl
       simp only [Act.put,siB,siC,siD];refine Qh ?_ Z (fun W hW=>?_) ?_
       rotate_left
       ·subst hW; go_simp; with_reducible rfl
       simp only [Act.put,siB,siC,siD];refine Qh ?_ Z (fun W hW=>?_) ?_
       rotate_left
       ·subst hW; go_simp; with_reducible rfl
       simp only [Act.put,siB,siC,siD];refine Qh ?_ Z (fun W hW=>?_) ?_
       rotate_left
       ·subst hW; go_simp; with_reducible rfl
       simp only [Act.put,siB,siC,siD];refine Qh ?_ Z (fun W hW=>?_) ?_
       rotate_left
       ·subst hW; go_simp; with_reducible rfl
       simp only [Act.put,siB,siC,siD];refine Qh ?_ Z (fun W hW=>?_) ?_
       rotate_left
       ·subst hW; go_simp; with_reducible rfl
       simp only [Act.put,siB,siC,siD];refine Qh ?_ Z (fun W hW=>?_) ?_
       rotate_left
       ·subst hW; go_simp; with_reducible rfl
       simp only [Act.put,siB,siC,siD];refine Qh ?_ Z (fun W hW=>?_) ?_
       rotate_left
       ·subst hW; go_simp; with_reducible rfl
       simp only [Act.put,siB,siC,siD];refine Qh ?_ Z (fun W hW=>?_) ?_
       rotate_left
       ·subst hW; go_simp; with_reducible rfl
       simp only [Act.put,siB,siC,siD];refine Qh ?_ Z (fun W hW=>?_) ?_
       rotate_left
       ·subst hW; go_simp; with_reducible rfl
       simp only [Act.put,siB,siC,siD];refine Qh ?_ Z (fun W hW=>?_) ?_
       rotate_left
       ·subst hW; go_simp; with_reducible rfl
       simp only [Act.put,siB,siC,siD];refine Qh ?_ Z (fun W hW=>?_) ?_
       rotate_left
       ·subst hW; go_simp; with_reducible rfl
       simp only [Act.put,siB,siC,siD];refine Z3 ?_;clear e7 e8 e9 e10 e11;have HV5:=Lib.hid HV.out.drew.drew.drew;have hb5:=Uk hb4 3
       change Below w3.heap.size w3 wr.drew.drew.drew at hb5
       clear HV cv0 cv1 cv2 cv4 hb4
       generalize wr.drew.drew.drew=w5 at *
       have e14:=E14.out.2;have g14:=E14.out.1
       go_upto_region 23 with (go_at_call 176; first
        | ((with_reducible refine (K8 xa 2 2 xar2 _ rfl Qb Qb Hxar2.out).mono ?_); rintro e w' ⟨rfl,rfl⟩)
        | ((with_reducible refine (K8 xa 13 13 xar13 _ rfl Qb Qb Hxar13.out).mono ?_); rintro e w' ⟨rfl,rfl⟩)
        | ((with_reducible refine (K8 xa 22 22 xar22 _ rfl Qb Qb Hxar22.out).mono ?_); rintro e w' ⟨rfl,rfl⟩))
       clear e12 e13 e14 g14 E14 Hxar2 Hxar13 Hxar22;have e15:=E15.out.2;have g15:=E15.out.1
       go_upto_region 25 with (at_builtin; (refine Jv _ rfl (.tmp 202) (.tmp 207) 42 42 rfl 3 i1 _ 1 8 uz42 hi1 hz3 hz4 hz5 rfl Qb (.slice none 0 0) 0 [] rfl (Row.nil _ _ _) (.slice (some ⟨w5.heap.size,0,none⟩) 1 1) 1 [iw NA] rfl (Row.src (Row.new w5 3 1 1 #[iw NA] (by simp [maxLen]) rfl) uz42 (HU [NA])) (by simp only [maxLen]; omega) Qb ?_); intro vn w6 hR6 hC6 hv6)
       clear e15 g15 E15
       have hn6:∀ k,vn.ownBlock=some k→w5.heap.size≤k:=by
        intro k hk
        rcases hv6 with h|h
        ·rw [h] at hk; simp [Value.ownBlock] at hk
        ·rw [h] at hk; injection hk with hk; simp at hk; omega
       have hb6:Below w5.heap.size w5 w6:=(((Chg.refl (fun _=>False) w5).alloc _).next hC6 (fun i h=>by simp [Value.ownBlock] at h)).belowAll;have HV6:=Lib.hid ((HV5.out.belowAll hb6).firsts (m:=7) Qb Qb);have HN6:Hid (Row w6 3 1 vn 1 [iw NA]):=hR6
       have q7:(7:Int)≤(capv:Int):=by omega
       clear hR6 hC6 hv6 HV5
       go_upto_region 26 with (at_builtin; (refine Jv _ rfl (.tmp 209) (.tmp 211) 42 42 rfl 3 i1 _ 1 8 uz42 hi1 hz3 hz4 hz5 rfl Qb vn 1 [iw NA] rfl HN6.out (.slice (some ⟨gv,ov,none⟩) 7 capv) 7 ([xa,xb,xc,xd,xe,xf,xg].map iw) rfl (Row.src HV6.out uz42 (HU [xa,xb,xc,xd,xe,xf,xg])) (by simp only [maxLen]; omega) Qb ?_); intro v7 w7 hR7 hC7 hv7)
       have HN7:Hid (Row w7 3 1 v7 8 ([NA,xa,xb,xc,xd,xe,xf,xg].map iw)):=hR7;clear hR7 HN6 HV6;obtain ⟨gn,on,capn,rfl,hobn,hn1,hn2,hcln,hfrn⟩:=HN7.out.form Qb
       have hgn:w5.heap.size≤gn:=by
        have:=hb6.size
        rcases hv7 with h|h
        ·exact hn6 gn<|h.symm.trans hobn
        ·rw [h] at hobn; injection hobn with hobn; omega
       have c4:w7.cell? ⟨gn,on+4,none⟩=some (.int .i64 xd.toNat):=HN7.out.at_ (j:=4) rfl
       have f4:=hfrn 4 Qb;unfold maxLen at hn2;clear hcln hfrn hobn hv7;have e16:=E16.out.2;have g16:=E16.out.1
       go_wp2_with fail
       go_roundg (64-(k+1))
       case measure=>omega
       case rel =>
        refine ⟨k+1,by omega,Z,by go_num,?_,?_⟩
        ·rw [Hx.out,Hrd.out]
         exact HN7.out.store 4 Qb<|iw NE
        ·have hz:=hb5.size;have k1:=(Chg.of_below (Zm hb5 hb6 (Nat.le_refl _)) (fun k=>w3.heap.size≤k)).next hC7 (fun i h=>.inr (by have:=hn6 i h; omega));exact (k1.setCell (p:=⟨gn,on+4,none⟩) (.inr (by show _≤gn; omega)) _).below (Nat.le_refl _) (fun k h=>h)
      ·obtain rfl:k=64:=by omega
       have hdec:decide ((64:Int)<64)=false:=by simp
       generalize J2 WS h 64=x at *
       have hb4w:=Zm hbw3 hb4 (Nat.le_refl _);have Hh4:=Lib.hid (Hh3.out.belowAll hb4);have HV4:=Lib.hid hR;obtain ⟨gv,ov,capv,rfl,hob,hv1,hv2,hcl,hfr⟩:=hR.form Qb;unfold maxLen at hv2;clear hob hcl hfr hR hb4 HS3 Hk3 Hh3 hbw3 Hk Hh
       go_wp2_with fail
       clear hdec
       obtain ⟨w4,hw4⟩:∃ w4,w4=wr:=⟨_,rfl⟩
       rw [← hw4] at Hh4 HV4 hb4w
       go_loopg [21,22] 8 (fun m vo i wr2=>∃ (k:Nat),k≤8∧m=8-k∧i=.int .i64 k∧Qiv w4 wr2 vo ((XG h x).words.take k))
       case atStart=>exact ⟨0,by omega,rfl,rfl,Row.nil _ _ _,(fun k hk=>by simp [Value.ownBlock] at hk),(by rw [hw4]; exact Below.refl _ _)⟩
       case round =>
        clear hw4;obtain ⟨k,hk8,rfl,rfl,hR,hn,hbr⟩:=hrel;have HR:=Lib.hid hR; clear hR
        by_cases hlt:k<8
        ·have Kh:=Lib.hid (Qda h.words k (by show k<8; omega));have Kv:=Lib.hid (Qda x.words k (by show k<8; omega));have Hadd:=Lib.hid (Qqp h x k hlt)
         have hln:((XG h x).words.take k).length≤8:=by rw [List.length_take]; omega
         generalize h.words.getD k 0=yh at *
         generalize x.words.getD k 0=yv at *
         obtain ⟨G1,g1,e1⟩:=sum2 yh yv
         obtain ⟨E,HE⟩:∃ r,Hid (yh+yv=r):=⟨_,rfl⟩
         rw [HE.out] at e1
         have jl:(k:Int)<8:=by omega
         go_wp2_with fail
         refine Un (fun W=>Below w4.heap.size w4 W) [true,true,true,true,true,true,true,true,true,true,true,false,false,true] Qo Qo (fun c a d v w h=>by cases d <;> exact h) (Uk hbr 1) ?_;refine Qh ?_ Z (fun W _=>?_) ?_
         rotate_left
         ·go_simp; with_reducible rfl
         simp only [Act.put,siB,siC,siD];refine Qh ?_ Z (fun W _=>?_) ?_
         rotate_left
         ·go_simp; with_reducible rfl
         simp only [Act.put,siB,siC,siD];refine Qh ?_ Z (fun W _=>?_) ?_
         rotate_left
         ·go_simp; with_reducible rfl
         simp only [Act.put,siB,siC,siD];refine Qh ?_ Z (fun W _=>?_) ?_
         rotate_left
         ·go_simp; with_reducible rfl
         simp only [Act.put,siB,siC,siD];refine Qh ?_ Z (fun W hW=>?_) ?_
         rotate_left
         ·have hc:=(Hh4.out.belowAll hW).at_ Qb Kh.out
          go_simp; with_reducible rfl
         simp only [Act.put,siB,siC,siD];refine Qh ?_ Z (fun W _=>?_) ?_
         rotate_left
         ·go_simp; with_reducible rfl
         simp only [Act.put,siB,siC,siD];refine Qh ?_ Z (fun W _=>?_) ?_
         rotate_left
         ·go_simp; with_reducible rfl
         simp only [Act.put,siB,siC,siD];refine Qh ?_ Z (fun W _=>?_) ?_
         rotate_left
         ·go_simp; with_reducible rfl
         simp only [Act.put,siB,siC,siD];refine Qh ?_ Z (fun W hW=>?_) ?_
         rotate_left
         ·have hc:=(HV4.out.belowAll hW).at_ Kv.out
          go_simp; with_reducible rfl
         simp only [Act.put,siB,siC,siD];refine Qh ?_ Z (fun W _=>?_) ?_
         rotate_left
         ·go_simp; with_reducible rfl
         simp only [Act.put,siB,siC,siD];refine Qh ?_ Z (fun W _=>?_) ?_
         rotate_left
         ·go_simp; with_reducible rfl
         simp only [Act.put,siB,siC,siD];refine Hp _ _ Z (by go_simp; exact ⟨Z,Z⟩) (Uk (hbr.alloc hbr.size _) 1) ?_;simp only [Act.put,siB,siC,siD]
         refine Ye Z fun K hK=>Uo _ (.tmp 226) (.tmp 237) 42 42 Z 3 i1 _ 1 8 uz42 hi1 hz3 hz4 hz5 Z Qb _ ((XG h x).words.take k).length (((XG h x).words.take k).map iw) Z (HR.out.alloc _).drew (.slice (some ⟨wr.heap.size,0,none⟩) 1 1) 1 [iw E] Z (Row.src (Row.new wr 3 1 1 #[iw E] (by simp [maxLen]) Z).drew uz42 (HU [E])) (by simp only [maxLen]; omega) Qb ?_
         intro v5 w5 hR5 hC5 hv5;have IM:=Lib.hid (HX (l':=(XG h x).words.take (k+1)) hn hbr hR5 hC5 hv5 (by rw [Hadd.out,HE.out]));refine hK _ _ IM.out.2.2 ?_;clear hR5 hC5 hv5;simp only [Act.put,siB,siC,siD];refine Qh ?_ Z (fun W _=>?_) ?_
         rotate_left
         ·go_simp; with_reducible rfl
         simp only [Act.put,siB,siC,siD];refine Z3 ?_;clear g1 e1
         go_wp2_with fail
         go_roundg (8-(k+1))
         case measure=>omega
         case rel=>exact ⟨k+1,by omega,rfl,by go_num,IM.out⟩
        ·obtain rfl:k=8:=by omega
         have hdec:decide ((8:Int)<8)=false:=by simp
         go_wp2_with fail
         go_ret
         rw [Hbl.out];have hz:=hb4w.size;exact ⟨_,Z,HR.out,fun k hk=>by have:=hn k hk; omega,Zm hb4w hbr (Nat.le_refl _)⟩
end
namespace Sha
def Qcv (n:Nat):Nat→List UInt8
  | 0=>[]
  | i+1=>KD n i::Qcv n i
theorem Qva (n:Nat):Qcv n 8=VN n 8:=rfl
theorem Qth (n j:Nat) (h:j≤ZJ n):((n+1+j)%64=56)=(j=ZJ n):=by
 unfold ZJ at *
 apply propext
 constructor <;> intro h2 <;> omega
def whole (m:List UInt8):List UInt8:=m++pad m.length m.length
theorem pad_mod (n k:Nat):pad (n%64) k=pad n k:=by
 unfold pad ZJ;rw [Nat.mod_mod]
theorem Qmy (n k:Nat):(pad n k).length=9+ZJ n:=by
 have:(VN k 8).length=8:=rfl
 simp only [pad,List.length_cons,List.length_append,List.length_replicate,this]
 omega
theorem Qgh (m:List UInt8):(whole m).length%64=0:=by
 unfold whole;rw [List.length_append,Qmy];unfold ZJ
 omega
theorem Qrb (m:List UInt8):sha m=(JM begin_ (whole m)).1.bytes:=by
 unfold sha Qjk;rw [Vb,pad_mod,Qin]
 rfl
theorem Qio (n:Nat):∀ (v:St) (l:List UInt8),absorbN (n+1) v l=(block (absorbN n v l).1 ((absorbN n v l).2.take 64),(absorbN n v l).2.drop 64):=by
 induction n with
 | zero=>intro v l; rfl
 | succ n ih =>
  intro v l;rw [absorbN,ih]
  rfl
theorem Qip (n:Nat):∀ (v:St) (l:List UInt8),(absorbN n v l).2=l.drop (64*n):=by
 induction n with
 | zero=>intro v l; simp [absorbN]
 | succ n ih =>
  intro v l;rw [absorbN,ih,List.drop_drop]
  congr 1
  omega
def after (l:List UInt8) (j:Nat):St:=(absorbN j begin_ l).1
theorem Qon (l:List UInt8) (j:Nat):after l (j+1)=block (after l j) ((l.drop (64*j)).take 64):=by
 unfold after;rw [Qio,Qip]
theorem Qsp (m:List UInt8):(after (whole m) ((whole m).length / 64)).bytes=sha m:=by rw [Qrb]; rfl
def Qok (x:UInt32) (i:Nat):UInt8:=(x >>> (UInt32.ofNat (8*(3-i)))).toUInt8
theorem bytes_at (v:St) (i:Nat) (h:i<32):v.bytes.getD i 0=Qok (v.words.getD (i / 4) 0) (i%4):=by
 have:i=0∨i=1∨i=2∨i=3∨i=4∨i=5∨i=6∨i=7∨i=8∨i=9∨i=10∨i=11∨i=12∨i=13∨i=14∨i=15∨i=16∨i=17∨i=18∨i=19∨i=20∨i=21∨i=22∨i=23∨i=24∨i=25∨i=26∨i=27∨i=28∨i=29∨i=30∨i=31:=by omega
 rcases this with h|h|h|h|h|h|h|h|h|h|h|h|h|h|h|h|h|h|h|h|h|h|h|h|h|h|h|h|h|h|h|h <;> subst h <;> first|rfl|(show UInt32.toUInt8 _=UInt32.toUInt8 (_ >>> 0); simp)
theorem Qoj (x:UInt32) (r:Nat) (h:r≤3):((Qok x (3-r)).toNat:Int)=(x.toNat:Int) / 256 ^ r%256:=by
 unfold Qok;rw [show 3-(3-r)=r by omega,UInt32.toNat_toUInt8,UInt32.toNat_shiftRight,UInt32.toNat_ofNat_of_lt' (by simp [UInt32.size]; omega),Nat.mod_eq_of_lt (show 8*r<32 by omega),Nat.shiftRight_eq_div_pow];rw [show (2:Nat) ^ (8*r)=256 ^ r by rw [Nat.pow_mul]];rw [Int.natCast_emod,Int.natCast_ediv,Int.natCast_pow]
 rfl
end Sha
section
open Go.RowKit Sha
def Uu (n i:Nat):Nat:=8*n / 256 ^ i
theorem Qln (n i:Nat):(Uu n i:Int) / 256=(Uu n (i+1):Int):=by
 unfold Uu;rw [Nat.pow_succ,← Nat.div_div_eq_div_mul]
 omega
theorem Qkn (n i:Nat):(KD n i).toNat=Uu n i%256:=by
 unfold KD Uu;rw [UInt8.toNat_ofNat',Nat.mul_comm n 8,Nat.pow_mul]
theorem Qko (n i:Nat):(Uu n i:Int)%256=((KD n i).toNat:Int):=by rw [Qkn]; omega
theorem VO (n:Nat):∀ i,(Qcv n i).length=i
 | 0=>rfl
 | i+1=>by simp [Qcv,VO n i]
theorem Qsm (n i:Nat):Uu n i≤8*n:=Nat.div_le_self _ _
theorem ref_Of (s:ByteArray) (w:World) (hs:s.size≤1000000):Calls Tryz.prog 106 #[.string s] w (Qwx w (sha s.data.toList)):=by
 have k0:=Blk.new w 57 z32;have Hk0:=Lib.hid k0; clear k0
 go_enter Tryz.func106,Tryz.ntmps106
 go_wp2_with fail
 obtain ⟨w1,hw1⟩:∃ w1:World,w1=w.alloc (.cells z32 57):=⟨_,rfl⟩
 have hb1:Below w.heap.size w w1:=by rw [hw1]; exact (Below.refl _ _).alloc (Nat.le_refl _) _
 have hz1:w1.heap.size=w.heap.size+1:=by rw [hw1]; simp
 rw [← hw1] at Hk0
 change Code.wp _ _ _ _ (w.alloc (.cells z32 57))
 rw [← hw1];clear hw1;have hz1':=Lib.hid hz1; clear hz1
 go_loopg [3] 64 (fun m t wr=>∃ (j:Nat) (z:ByteArray),j≤ZJ s.size∧m=64-j∧t=.string z∧z.data.toList=s.data.toList++(128::List.replicate j 0)∧w1=wr)
 case atStart=>exact ⟨0,s++⟨#[128]⟩,by omega,rfl,rfl,by rw [U0]; rfl,rfl⟩
 case round =>
  obtain ⟨j,z,hj,rfl,rfl,hz,rfl⟩:=hrel
  have hzs:z.size=s.size+1+j:=by
   have h1:z.data.toList.length=z.size:=rfl;have h2:s.data.toList.length=s.size:=rfl;rw [hz] at h1;simp at h1
   omega
  have hzr:ZJ s.size<64:=Nat.mod_lt _ Qb;have Hz:=Lib.hid hz; clear hz;have hok:=Qth s.size j hj
  by_cases hlt:j<ZJ s.size
  ·have d1:((z.size:Int)%64 != 56)=true:=by
    rw [bne_iff_ne];intro h
    have:(s.size+1+j)%64=56:=by omega
    rw [hok] at this
    omega
   have Hzs:=Lib.hid hzs; clear hzs hok
   have hzb:z.size≤1000100:=by rw [Hzs.out]; omega
   go_wp2_with fail
   go_roundg (64-(j+1))
   case measure=>omega
   case rel=>exact ⟨j+1,z++⟨#[0]⟩,by omega,rfl,rfl,by rw [U0,Hz.out]; simp [List.replicate_succ'],rfl⟩
  ·have d1:((z.size:Int)%64 != 56)=false:=by
    rw [bne_eq_false_iff_eq]
    have:(s.size+1+j)%64=56:=by rw [hok]; omega
    omega
   obtain rfl:j=ZJ s.size:=by omega
   have Hzs:=Lib.hid hzs; clear hzs hok
   have hzb:z.size≤1000100:=by rw [Hzs.out]; omega
   go_wp2_with fail
   clear d1
   go_loopg [4,5,6] 8 (fun m b t i wr=>∃ (j:Nat) (y:ByteArray),j≤8∧m=8-j∧i=.int .i64 j∧b=.int .i64 (Uu s.size j)∧t=.string y∧y.data.toList=Qcv s.size j∧Below w1.heap.size w1 wr)
   case atStart=>exact ⟨0,⟨#[]⟩,by omega,rfl,rfl,by simp [Uu],rfl,rfl,by exact Below.refl _ _⟩
   case round =>
    obtain ⟨j,y,hj8,rfl,rfl,rfl,rfl,hy,hbr⟩:=hrel
    have hys:y.size≤8:=by
     have h1:y.data.toList.length=y.size:=rfl;rw [hy,VO] at h1
     omega
    have Hy:=Lib.hid hy; clear hy
    by_cases hlt:j<8
    ·have hbn:=Lib.hid (Qln s.size j);have hli:=Qko s.size j;have hble:=Qsm s.size j;have Hlb:Hid (Qcv s.size (j+1)=KD s.size j::Qcv s.size j):=rfl
     generalize KD s.size j=lb at *
     generalize Uu s.size j=bb at *
     have hlb:=Qfm lb
     have t1:decide ((j:Int)<8)=true:=by simp; omega
     have hcv:=Xl (P:=Tryz.prog) (wr.alloc (.cells #[.int .u8 lb.toNat] 5)) 114 9 5 (.slice (some ⟨wr.heap.size,0,none⟩) 1 1) 1 [lb] uz114 uz5 uz9 (Row.new wr 5 1 1 #[bv lb] (by simp [maxLen]) rfl)
     go_wp2_with fail
     go_roundg (8-(j+1))
     case measure=>omega
     case rel=>exact ⟨j+1,⟨#[lb]⟩++y,by omega,rfl,by go_num,by rw [hbn.out],rfl,by rw [U0,Hy.out,Hlb.out]; rfl,hbr.alloc hbr.size _⟩
    ·obtain rfl:j=8:=by omega
     have hTl:(z++y).data.toList=whole s.data.toList:=by
      rw [U0,Hz.out,Hy.out,Qva];simp [whole,pad]
     have hTs:(z++y).size≤1000200:=by rw [Qlq]; omega
     have t1:decide ((8:Int)<8)=false:=by simp
     clear Hy Hz Hzs
     have hzy:z.size+y.size≤1000200:=by rw [← Qlq]; exact hTs
     go_wp2_with (go_at_call 145; (with_reducible refine (Qen _).mono ?_); rintro e w5 ⟨vk,rfl,hRk,hnk,hb5⟩)
     clear t1;have hb2:Below w1.heap.size w1 w5:=Zm (hbr.alloc hbr.size _) hb5 (Nat.le_refl _);have hRh:Row w5 3 1 (.slice (some ⟨wr.heap.size,0,none⟩) 8 8) 8 (begin_.words.map iw):=(Row.new wr 3 1 8 (begin_.words.map iw).toArray (by simp [maxLen]) rfl).belowAll hb5;have Hsh:=Lib.hid (Qsp s.data.toList);have hm64:=Qgh s.data.toList
     have hTz:(z++y).size=(whole s.data.toList).length:=by rw [← hTl]; rfl
     generalize whole s.data.toList=WL at *
     generalize z++y=T at *
     obtain ⟨NB,hNB⟩:∃ NB,NB=WL.length / 64:=⟨_,rfl⟩
     rw [← hNB] at Hsh
     have hT64:T.size=64*NB:=by omega
     have HTl:=Lib.hid hTl;have HT64:=Lib.hid hT64;have Hkk:Hid (Reads w5 1 vk 64 (kTab.map iw)):=hRk.reads
     have hNB2:NB≤20000:=by omega
     clear hTl hT64 hm64 hTz hNB hRk hnk hzy
     go_loopg [7,9] NB (fun m vh i wr=>∃ (j:Nat),j≤NB∧m=NB-j∧i=.int .i64 (64*j:Nat)∧Row wr 3 1 vh 8 ((after WL j).words.map iw)∧Below w5.heap.size w5 wr)
     case atStart=>exact ⟨0,by omega,rfl,rfl,hRh,Below.refl _ _⟩
     case round =>
      clear hRh;obtain ⟨j,hj,rfl,rfl,hR,hb6⟩:=hrel;have HR:=Lib.hid hR; clear hR
      by_cases hlt:j<NB
      ·have hex:(T.extract (64*j) (64*j+64)).data.toList=(WL.drop (64*j)).take 64:=by
        rw [ByteArray.data_extract,Array.toList_extract,HTl.out];simp [List.extract]
       have hes:(T.extract (64*j) (64*j+64)).size=64:=by rw [ByteArray.size_extract,HT64.out]; omega
       have hbk:=fun w h1 h2=>Qri u7 vk (after WL j) (T.extract (64*j) (64*j+64)) w hes h1 h2
       rw [hex,← Qon] at hbk;have Hbk:=Lib.hid hbk; clear hbk hex hes
       have b1:((64*j:Nat):Int)<(T.size:Int):=by rw [HT64.out]; omega
       have b2:((64*j:Nat):Int)+64≤(T.size:Int):=by rw [HT64.out]; omega
       obtain ⟨J,hJ⟩:∃ J,64*j=J:=⟨_,rfl⟩
       rw [hJ] at b1 b2 Hbk;have HJ:=Lib.hid hJ;rw [hJ];clear hJ
       have n1:((J:Int)+64).toNat=J+64:=by omega
       go_wp2_with (go_at_call 146; (with_reducible refine (Hbk.out _ HR.out.reads (Hkk.out.belowAll hb6)).mono ?_); rintro e w7 ⟨v7,rfl,hR7,hn7,hb7⟩)
       go_roundg (NB-(j+1))
       case measure=>omega
       case rel=>exact ⟨j+1,by omega,rfl,by rw [← HJ.out]; go_num,hR7,Zm hb6 hb7 (Nat.le_refl _)⟩
      ·obtain rfl:j=NB:=by omega
       have d1:decide (64*j<T.size)=false:=by rw [HT64.out]; simp
       obtain ⟨gh,oh,caph,rfl,hob,hc1,hc2,hcl,hfr⟩:=HR.out.form Qb;unfold maxLen at hc2;clear hob hcl hfr
       generalize after WL j=st at *
       have hbS:=Zm hb2 hb6 (by have:=hb2.size; omega);have kS:=Blk.new wr 57 z32;have HkS:=Lib.hid kS; clear kS
       obtain ⟨wS,rfl⟩:∃ wS:World,wS=wr:=⟨_,rfl⟩
       obtain ⟨J,hJ⟩:∃ J,64*j=J:=⟨_,rfl⟩
       rw [hJ] at d1 ⊢
       go_wp2_with fail
       go_loopg [11] 32 (fun m i wr=>∃ (q:Nat),q≤32∧m=32-q∧i=.int .i64 q∧wr.rowIs wS.heap.size 57 32 (fun k=>bv (if k<q then st.bytes.getD k 0 else 0))∧Below wS.heap.size wS wr)
       case atStart=>exact ⟨0,by omega,rfl,rfl,HkS.out.row rfl (fun i hi=>Qti i hi),(Below.refl _ _).alloc (Nat.le_refl _) _⟩
       case round =>
        obtain ⟨q,hq,rfl,rfl,hrow,hbq⟩:=hrel;have Hrow:=Lib.hid hrow; clear hrow
        by_cases hlq:q<32
        ·have Kq:=Lib.hid (Qda st.words (q / 4) (by show q / 4<8; omega))
         have cq:=(HR.out.belowAll hbq).at_ Kq.out
         have Hby:=Lib.hid (Sha.bytes_at st q hlq)
         generalize st.words.getD (q / 4) 0=y at *
         have q1:(q:Int) / 4<8:=by omega
         have q2:((q:Int) / 4).toNat=q / 4:=by omega
         have q3:(0:Int)≤(q:Int) / 4:=by omega
         go_wp2_with fail
         obtain ⟨R,hR,hR3⟩:∃ R:Nat,(3:Int)-(q:Int)%4=(R:Int)∧R≤3:=⟨3-q%4,by omega,by omega⟩
         have HR4:Hid (q%4=3-R):=by show _=_; omega
         have HyI:=Lib.hid (Qoj y R hR3)
         obtain ⟨wq,rfl⟩:∃ wq:World,wq=wr:=⟨_,rfl⟩
         have hyb:y.toNat<4294967296:=y.toNat_lt;clear q1 q2 q3 cq
         go_loopg [12,13] 3 (fun m x i wr=>∃ (n d:Nat),n≤R∧m=3-n∧i=.int .i64 n∧x=.int .i64 d∧d=y.toNat / 256 ^ n∧d≤4294967295∧wq=wr)
         case atStart=>exact ⟨0,y.toNat,by omega,rfl,rfl,rfl,by simp,by omega,rfl⟩
         case round =>
          obtain ⟨n,d,hn,rfl,rfl,rfl,hd,hd2,rfl⟩:=hrel;have Hd:=Lib.hid hd; clear hd
          by_cases hln:n<R
          ·go_wp2_with fail
           go_roundg (3-(n+1))
           case measure=>omega
           case rel=>exact ⟨n+1,d / 256,by omega,rfl,by go_num,by go_num,by rw [Hd.out,Nat.pow_succ,Nat.div_div_eq_div_mul],by omega,rfl⟩
          ·obtain rfl:n=R:=by omega
           have t1:decide (n<n)=false:=by simp
           have Hb:Hid ((d:Int)%256=((st.bytes.getD q 0).toNat:Int)):=by
            show _=_
            rw [Hby.out,HR4.out,HyI.out,Hd.out,Int.natCast_ediv,Int.natCast_pow]
            rfl
           obtain ⟨bb,hbq0⟩:∃ bb,st.bytes.getD q 0=bb:=⟨_,rfl⟩
           rw [hbq0] at Hb;have Hbq:=Lib.hid hbq0; clear hbq0;have hbb:=Qfm bb;have hb':=Hb.out;have cO:=Hrow.out.cell (i:=q) hlq;have fO:=Hrow.out.frozen (i:=q)
           have jq:(q:Int)<32:=by omega
           go_wp2_with fail
           go_roundg (32-(q+1))
           case measure=>omega
           case rel =>
            refine ⟨q+1,by omega,Z,by go_num,?_,hbq.setCell (Nat.le_refl _) _⟩;refine (Hrow.out.set q _).congr (fun k hk=>?_)
            by_cases e:k=q
            ·rw [if_pos e,if_pos Qb,e,Hbq.out]; rfl
            ·rw [if_neg e]
             by_cases h2:k<q
             ·rw [if_pos h2,if_pos Qb]
             ·rw [if_neg h2,if_neg Qb]
        ·obtain rfl:q=32:=by omega
         have t1:decide ((32:Int)<32)=false:=by simp
         have hl32:st.bytes.length=32:=rfl
         have hBS:Blk wr wS.heap.size 57 (st.bytes.map bv).toArray:=Blk.of_row Hrow.out (by rw [Yh hl32]) (fun i hi=>by
          rw [if_pos hi,List.getElem?_toArray,List.getElem?_map,List.getElem?_eq_getElem Qb]
          simp [List.getD,List.getElem?_eq_getElem (show i<st.bytes.length by omega)])
         have HBS:=Lib.hid hBS; clear hBS
         have hB0:Blk wr w.heap.size 57 z32:=((Hk0.out.belowAll hbS).belowAll hbq)
         have HB0:=Lib.hid hB0; clear hB0;have Hl32:=Lib.hid hl32; clear hl32
         go_wp2_with (first
          | (refine U4 rfl 57 (.tmp 10) rfl wS.heap.size rfl HBS.out uz57 rfl (by rw [Yh Hl32.out]; exact info_sum) ?_)
          | (refine KS rfl 57 (.tmp 2) (.tmp 80) rfl w.heap.size (st.bytes.map bv).toArray rfl rfl HB0.out (by rw [Yh Hl32.out]; exact info_sum) (by rw [Yh Hl32.out]; rfl) (Y5 st.bytes) ?_; intro w10 hB10 hC10))
         refine bodyPost_ret (Xo Z _ _ w.heap.size Z hB10 uz57 Z (by rw [Yh Hl32.out]; exact info_sum)) Z ?_;rw [← Hsh.out];have hz:=hb1.size;have b1:=Zm (Zm hb1 hbS Qb) hbq (Nat.le_refl _);exact ⟨Z,((Chg.of_below b1 (fun _=>False)).next hC10 (fun i h=>.inr Qb)).belowAll⟩
end
end Go.Proofs.YtgiccohjijhfkaaGreatDoor
