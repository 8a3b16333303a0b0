/- Part 11. -/
import Derived.OrdersIn
import Derived.Test.YtgiccohjijhfkaaGreatDoorPackPlaysP10
set_option maxRecDepth 100000
set_option maxHeartbeats 4000000
namespace Go.Proofs.YtgiccohjijhfkaaGreatDoor
section
open Go.RowKit Sha
def tenB:List UInt8:=[48,49,50,51,52,53,54,55,56,57]
theorem ten_at (m:Nat):(tenB.take (m%10+1)).drop (m%10)=[d10 m]:=by
 have h:∀ k:Fin 10,(tenB.take (k.val+1)).drop k.val=[UInt8.ofNat (48+k.val)]:=by decide
 exact h ⟨m%10,Nat.mod_lt _ Qb⟩
theorem Qed (kind:List UInt8) (n:Int) (w:World) (hk:kind.length≤1000):Calls Tryz.prog 61 #[Qv kind,.int .i64 n] w fun e w'=>e=.returned (Qv (KB kind n))∧Below w.heap.size w w':=by
 refine Qj (args:=[Qv kind,.int .i64 n]) 30 Tryz.func61 Z Z Z<|Qt [(0,Qv kind),(1,.int .i64 n)] ?_ ⟨Z,Z,tvA⟩
 have bw:=Below.refl w.heap.size w
 refine Qa<|sa Z Z<|Wn<|tN<|Qe<|Qa<|sm Z Z<|st (QJ Z Z) Z<|sb Z Z (fun h9=>?_) (fun h9=>?_)
 ·replace h9:=Qs h9
  refine gN Z Z Z Z<|gN Z Z Z Z<|st (Qm Z Z) Z<|Wn<|tN<|QO Z (Z)<|Qa<|sa Z Z<|Wn<|tN<|Qg<|tR<|(rT Z Z ⟨?_,bw⟩).1
  unfold KB;rw [if_neg (by unfold QU; rw [decide_eq_true_eq]; omega)]
  rfl
 ·replace h9:=Qs h9
  refine gY Z Z Z<|sm Z Z<|gY Z Z Z<|st (Jg Z Z) Z<|st (Qq Z Z) Z<|Wn<|tN<|Qx Z (fun h12=>?_) (fun h12=>?_)
  ·replace h12:=Qs h12
   refine Qa<|sa Z Z<|Wn<|tN<|Qg<|tR<|(rT Z Z ⟨?_,bw⟩).1
   unfold KB;rw [if_neg (by unfold QU; rw [decide_eq_true_eq]; omega)]
   rfl
  ·replace h12:=Qs h12
   have hr:QU n=true:=by unfold QU; rw [decide_eq_true_eq]; omega
   have h0:0≤n∧n≤999999:=by unfold QU at hr; simpa using hr
   refine Qf<|tN<|Qa<|sa Z Z<|Wn<|tN<|Qe<|Qa<|sa Z Z<|Wn<|tN<|Qp<|JG (fun nw1_ lw1_ w1=>∃ i:Nat,∃ m:Int,nw1_=6-i∧lw1_=([(0,Qv kind),(1,.int .i64 m),(5,Qv (dig i n.toNat)),(6,.int .i64 i)]:Env)∧(i≤6)∧(m=((n.toNat / 10 ^ i:Nat):Int))∧(0≤m∧m≤999999)∧(Below w.heap.size w w1)) _ ⟨_,⟨0,n,Z,Z,by omega,by simp; omega,h0,bw⟩,⟨Z,Z,Z,Z,tvA⟩⟩ ?_
   clear bw;rintro nw1_ lw1_ w1 ⟨i,m,rfl,rfl,hi,hm,hm0,bw⟩;have zz1:=bw.size
   refine Qe<|Qa<|sm Z Z<|st (QJ Z Z) Z<|Wn<|tN<|Qx Z (fun h14=>?_) (fun h14=>?_)
   ·replace h14:=Qs h14
    refine Qf<|tN<|Qe<|Qp<|Qa<|sm Z Z<|st (Yc Z Z Qb Qb) Z<|sm Z Z<|st (Yc Z Z Qb Qb) Z<|st (Qn Z Z Qb) Z ?_
    have hmn:m=(m.toNat:Int):=by omega
    refine st (Qqj (s:=tenB) (i:=m.toNat%10) (j:=m.toNat%10+1) (ten_at _) Z Z Z uz9 Qb Qb Qb (by have:=Nat.mod_lt m.toNat (show 0<10 by omega); show _≤10; omega)) Z ?_
    refine sm Z Z<|st (JV Z Z (by rw [dig_length]; simp; omega)) Z ?_
    have hdc:[d10 m.toNat]++dig i n.toNat=dig (i+1) n.toNat:=by rw [dig_cons,hm]; rfl
    rw [hdc]
    refine sa Z Z<|Wn<|tN<|Qw<|sm Z Z<|st (Qqd Z Z Qb Qb Qb) Z<|sa Z Z<|Wn<|bN<|tN<|Qw<|sm Z Z<|st (Qn Z Z Qb) Z<|sa Z Z<|Wn<|tN ⟨_,_,?_,⟨i+1,m / 10,Z,Z,by omega,by rw [hm,Nat.pow_succ,← Nat.div_div_eq_div_mul]; omega,by omega,bw⟩,⟨Z,Z,Z,Z,tvA⟩⟩
    omega
   ·replace h14:=Qs h14
    refine QQ<|tE<|tE<|bH<|tN<|Qa<|sm Z Z<|sm Z Z<|st (JV Z Z (by rw [dig_length]; omega)) Z ?_
    refine sa Z Z<|Wn<|tN<|Qg ?_
    obtain rfl:i=6:=by omega
    refine (rT Z Z ⟨?_,bw⟩).1;unfold KB six;rw [if_pos hr]
theorem Yd (n:Int) (w:World):Calls Tryz.prog 21 #[.int .i64 n] w fun e w'=>e=.returned (Qv (Qz n))∧Below w.heap.size w w':=by
 refine Qj (args:=[.int .i64 n]) 5 fz21 Z Z Z<|Qt [(0,.int .i64 n)] ?_ ⟨Z,tvA⟩
 have bw:=Below.refl w.heap.size w
 refine Qa<|sa Z Z<|Wn<|tN<|Qa<|sm Z Z<|sc _ Tryz.func61 Z Qo Z Z (Q3 (Qed packB n _ QF) fun w1 hb=>?_)
 replace bw:=Ql bw hb;have zz1:=hb.size;clear hb
 refine sa Z Z<|Wn<|tN<|Qg ?_
 exact (rT Z Z ⟨Z,bw⟩).1
theorem YI (n:Int) (w:World):Calls Tryz.prog 70 #[.int .i64 n] w fun e w'=>e=.returned (Qv (Zz n))∧Below w.heap.size w w':=by
 refine Qj (args:=[.int .i64 n]) 5 fz70 Z Z Z<|Qt [(0,.int .i64 n)] ?_ ⟨Z,tvA⟩
 have bw:=Below.refl w.heap.size w
 refine Qa<|sa Z Z<|Wn<|tN<|Qa<|sm Z Z<|sc _ Tryz.func61 Z Qo Z Z (Q3 (Qed indexB n _ QF) fun w1 hb=>?_)
 replace bw:=Ql bw hb;have zz1:=hb.size;clear hb
 refine sa Z Z<|Wn<|tN<|Qg ?_
 exact (rT Z Z ⟨Z,bw⟩).1
theorem Qjr (s:List UInt8) (w:World) (hs:s.length≤1000000):Calls Tryz.prog 106 #[Qv s] w fun e w'=>e=.returned (.agg ((sha s).map bv).toArray)∧Below w.heap.size w w':=by
 have:=ref_Of ⟨s.toArray⟩ w (by show s.toArray.size≤_; simpa using hs)
 exact this
theorem Qtw {a:List UInt8} {i:Nat} (h:i<a.length):(a.map bv).toArray.toList[0+i*1]?=some (bv (a.getD i 0)):=by
 simp [List.getElem?_eq_getElem h,List.getD_eq_getElem?_getD]
theorem XK (d:List UInt8) (w:World) (hd:d.length≤1000000):Calls Tryz.prog 57 #[Qv d] w fun e w'=>e=.returned (Qv (sha d))∧Below w.heap.size w w':=by
 have hs:=JD d
 refine Qj (args:=[Qv d]) 20 fz57 Z Z Z<|Qt [(0,Qv d)] ?_ ⟨Z,tvA⟩
 have bw:=Below.refl w.heap.size w
 refine Qa<|sa Z Z<|Wn<|tN<|Qa<|sm Z Z<|sc _ Tryz.func106 Z Qo Z Z (Q3 (Qjr d _ hd) fun w1 hb=>?_)
 replace bw:=Ql bw hb;have zz1:=hb.size;clear hb;refine Jm inf57 Z (fun g3 w2 hB3 hg3 hb hl3=>?_);replace bw:=Ql bw hb;have zz2:=hb.size;clear hb;refine QY Z Z hB3 (by rw [Jn hs]; exact siz57) (by rw [Jn hs]; rfl) (Vf _) (fun w3 bB cC=>?_);replace hB3:=bB;replace bw:=Ji bw cC Qb;clear bB cC
 refine Wn<|tN<|Qa<|sa Z Z<|Wn<|tN<|Qe<|Qa<|sa Z Z<|Wn<|tN<|Qp<|JG (fun nw4_ lw4_ w4=>∃ i:Nat,nw4_=32-i∧lw4_=([(3,.pointer (some ⟨g3,0,none⟩)),(4,Qv ((sha d).take i)),(5,.int .i64 i)]:Env)∧(i≤32)∧(Blk w4 g3 57 ((sha d).map bv).toArray)∧(Below w.heap.size w w4)) _ ⟨_,⟨0,Z,Z,by omega,hB3,bw⟩,⟨Z,Z,Z,tvA⟩⟩ ?_
 clear hB3 bw;rintro nw4_ lw4_ w4 ⟨i,rfl,rfl,hi,hB3,bw⟩;have zz4:=bw.size;have hlt_hB3_w4:=hB3.lt
 refine Qe<|Qa<|sm Z Z<|st (QJ Z Z) Z<|Wn<|tN<|Qx Z (fun h9=>?_) (fun h9=>?_)
 ·replace h9:=Qs h9
  refine Qf<|tN<|Qe<|Qp<|Qw<|sm Z Z<|sm Z Z<|st (Ki (j:=i) Z Z uz57 siz5 Z Qb) Z<|st (Qi (v:=bv ((sha d).getD i 0)) Z hB3 uz5 Z (Qtw Qb)) Z<|Zy Z uz114 inf5 Z Z QF QF Z (fun g16 w5 hR16 hg16 hb=>?_)
  replace bw:=Ql bw hb;replace hB3:=hB3.bel hb;have zz5:=hb.size;clear hb;have hl16:=hR16.blt QF
  refine st (Zs (s:=[(sha d).getD i 0]) Z uz114 uz5 uz9 hR16.reads) Z<|st (JV Z Z (by rw [List.length_take]; simp; omega)) Z ?_
  have htk:(sha d).take i++[(sha d).getD i 0]=(sha d).take (i+1):=by
   rw [List.take_add_one,List.getElem?_eq_getElem Qb];simp [List.getD_eq_getElem?_getD,List.getElem?_eq_getElem (show i<(sha d).length by omega)]
  rw [htk]
  refine sa Z Z<|Wn<|bN<|tN<|Qw<|sm Z Z<|st (Qn Z Z Qb) Z<|sa Z Z<|Wn<|tN ⟨_,_,?_,⟨i+1,Z,Z,by omega,hB3,bw⟩,⟨Z,Z,Z,tvA⟩⟩
  omega
 ·replace h9:=Qs h9
  refine QQ<|tE<|tE<|bH<|tN<|Qa<|sm Z Z<|sa Z Z<|Wn<|tN<|Qg ?_
  obtain rfl:i=32:=by omega
  rw [show (sha d).take 32=sha d from List.take_of_length_le Qb];exact (rT Z Z ⟨Z,bw⟩).1
def hadI:Nat→List Ent→List UInt8→Int
  | _,[],_=>-1
  | i,e::l,a=>if e.sum=a then (i:Int) else hadI (i+1) l a
theorem Qfq {l:List Ent} {i:Nat} {e:Ent} (h:l[i]?=some e) (a:List UInt8):hadI i (l.drop i) a=if e.sum=a then (i:Int) else hadI (i+1) (l.drop (i+1)) a:=by
 obtain ⟨hi,rfl⟩:=List.getElem?_eq_some_iff.1 h;rw [List.drop_eq_getElem_cons hi,hadI]
theorem YX (a:List UInt8):∀ (l:List Ent) (k:Nat),(hadI k l a=-1∧Zf l a=none)∨∃ i e,hadI k l a=((k+i:Nat):Int)∧l[i]?=some e∧e.sum=a∧Zf l a=some e
 | [],_=>.inl ⟨rfl,rfl⟩
 | x::l,k=>by
  rw [hadI]
  by_cases h:x.sum=a
  ·right
   refine ⟨0,x,by rw [if_pos h]; rfl,Z,h,?_⟩;unfold Zf;exact List.find?_cons_of_pos (by simpa using h)
  ·rw [if_neg h]
   have e:Zf (x::l) a=Zf l a:=by
    unfold Zf;exact List.find?_cons_of_neg (by simpa using h)
   rw [e]
   rcases YX a l (k+1) with h1|⟨i,y,h1,h2,h3,h4⟩
   ·exact .inl h1
   ·exact .inr ⟨i+1,y,by rw [h1]; omega,h2,h3,h4⟩
theorem Qse (l:List Ent) (a:List UInt8):Xy l a=(Zf l a).isSome:=by
 unfold Xy Zf;rw [List.isSome_find?]
theorem Qkv (l:List Ent) (a:List UInt8):decide (hadI 0 l a<0)=!Xy l a:=by
 rw [Qse]
 rcases YX a l 0 with ⟨h1,h2⟩|⟨i,e,h1,_,_,h2⟩
 ·rw [h1,h2]; rfl
 ·rw [h1,h2]; simp
theorem Qkw {l:List Ent} {a:List UInt8} (h:hadI 0 l a<0):Zf l a=none:=by
 rcases YX a l 0 with ⟨_,h2⟩|⟨i,e,h1,_⟩
 ·exact h2
 ·omega
theorem Qpu {l:List Ent} {a:List UInt8} (h:¬hadI 0 l a<0):∃ i e,hadI 0 l a=((i:Nat):Int)∧l[i]?=some e∧e.sum=a∧Zf l a=some e:=by
 rcases YX a l 0 with ⟨h1,_⟩|⟨i,e,h1,h2,h3,h4⟩
 ·omega
 ·exact ⟨i,e,by rw [h1,Nat.zero_add],h2,h3,h4⟩
theorem Qee (v:Value) (l:List Ent) (a:List UInt8) (w:World) (h:REnts w v l):Calls Tryz.prog 87 #[v,Qv a] w fun e w'=>e=.returned (.int .i64 (hadI 0 l a))∧Below w.heap.size w w':=by
 obtain ⟨p,cp,rfl,hn,hcp⟩:=h.shape
 refine Qj (args:=[.slice p l.length cp,Qv a]) 20 Tryz.func87 Z Z Z<|Qt [(0,.slice p l.length cp),(1,Qv a)] ?_ ⟨Z,Z,tvA⟩
 have bw:=Below.refl w.heap.size w
 refine Qa<|sa Z Z<|Wn<|tN<|Qe<|Qa<|sa Z Z<|Wn<|tN<|Qp<|JG (fun nw1_ lw1_ w1=>∃ j:Nat,nw1_=l.length-j∧lw1_=([(0,.slice p l.length cp),(1,Qv a),(5,.int .i64 j)]:Env)∧(j≤l.length)∧(hadI 0 l a=hadI j (l.drop j) a)∧(Below w.heap.size w w1)) _ ⟨_,⟨0,Z,Z,by omega,Z,bw⟩,⟨Z,Z,Z,tvA⟩⟩ ?_
 clear bw;rintro nw1_ lw1_ w1 ⟨j,rfl,rfl,hj,hq,bw⟩;have zz1:=bw.size
 refine Qe<|Qa<|sm Z Z<|sm Z Z<|st (QT Z Z uz35) Z<|st (QJ Z Z) Z<|Wn<|tN<|Qx Z (fun h9=>?_) (fun h9=>?_)
 ·replace h9:=Qs h9
  obtain ⟨x,hx⟩:∃ x,l[j]?=some x:=⟨_,List.getElem?_eq_getElem Qb⟩
  obtain ⟨g1,o1,c',hv,hg1⟩:=(h.bel bw).some_ Qb;injection hv with e1 _ e3;subst e1 e3
  refine Qf<|tN<|Qe<|Qp<|Qa<|sm Z Z<|sm Z Z<|st (QA Z Z uz35 siz95 Z Qb) Z<|st (Qk K1 Z) Z<|st (JS Z uz9 Z (REnts.range (h.bel bw) hx 0 _ Z)) Z<|sm Z Z<|st (KR Z Z) Z<|Wn<|tN<|Qx Z (fun h18=>?_) (fun h18=>?_)
  ·replace h18:=Qs h18
   refine Qa<|sm Z Z<|sa Z Z<|Wn<|tN<|Qg<|bR<|tR<|tR<|bR<|tR<|(rT Z Z ⟨?_,bw⟩).1
   rw [hq,Qfq hx,if_pos h18]
  ·replace h18:=Qs h18
   refine Qf<|bN<|tN<|Qw<|sm Z Z<|st (Qn Z Z Qb) Z<|sa Z Z<|Wn<|tN ⟨_,_,?_,⟨j+1,Z,Z,by omega,by rw [hq,Qfq hx,if_neg h18],bw⟩,⟨Z,Z,Z,tvA⟩⟩
   omega
 ·replace h9:=Qs h9
  obtain rfl:j=l.length:=by omega
  refine QQ<|tE<|tE<|bH<|tN<|Qa<|sa Z Z<|Wn<|tN<|Qg<|(rT Z Z ⟨?_,bw⟩).1
  rw [hq,List.drop_length]
  rfl
theorem Z2 (v:Value) (l:List Ent) (w:World) (h:REnts w v l) (hl:l.length≤1000000):Calls Tryz.prog 43 #[v] w fun e w'=>∃ u,e=.returned u∧REnts w' u (Jb l).1∧Below w.heap.size w w':=by
 obtain ⟨p,cp,rfl,hn,hcp⟩:=h.shape
 refine Qj (args:=[.slice p l.length cp]) 11 fz43 Z Z Z<|Qt [(0,.slice p l.length cp)] ?_ ⟨Z,tvA⟩
 have bw:=Below.refl w.heap.size w
 refine Qa<|sa Z Z<|Wn<|tN<|Qa<|sm Z Z<|sc _ Tryz.func92 Z Qo Z Z<|(Qta _ l _ h hl).mono ?_
 rintro e_ w1 ⟨u,rfl,hR,hb⟩;refine cR ?_;replace bw:=Ql bw hb;have zz1:=hb.size;clear hb
 refine sm Z Z<|st (Qu Z Z) Z<|st (Qu Z Z) Z<|sa Z Z<|sa Z Z<|Wn<|tN<|Qa<|sm Z Z<|sa Z Z<|Wn<|tN<|Qg ?_
 exact (rT Z Z ⟨u,Z,hR,bw⟩).1
end
section
open Go.RowKit Sha
theorem bfz (w:World):(Instr.build 39 #[]).run Tryz.prog w=.ok (.agg #[.slice none 0 0,.int .i64 0,.bool false]) w:=by kernel_rfl
theorem bfg (w:World) (m:Int):(Instr.build 39 #[(1,.int .i64 m)]).run Tryz.prog w=.ok (.agg #[.slice none 0 0,.int .i64 m,.bool false]) w:=by kernel_rfl
def VA (w:World) (r:Scn×Int) (e:Ending) (w':World):Prop :=
  ∃ u,e=.returned (.tuple #[.agg #[u,.int .i64 r.1.good,.bool r.1.whole],.int .i64 r.2])∧REnts w' u r.1.l∧(∀ k,u.ownBlock=some k→w.heap.size≤k)∧Below w.heap.size w w'
theorem YS {w w':World} {s:List UInt8} {n c:Int} (h:Zp s n=(⟨[],0,false⟩,c)) (hb:Below w.heap.size w w'):VA w (Zp s n) (.returned (.tuple #[.agg #[.slice none 0 0,.int .i64 0,.bool false],.int .i64 c])) w':=by
 rw [h];exact ⟨_,Z,REnts.nil _,fun k hk=>by simp [Value.ownBlock] at hk,hb⟩
theorem VD {n:Int} {x:Scn} {k:UInt8} {b:List UInt8} {z:Nat} (hk:k=2):Yg n x k b z=if Ke b=true∧Xy x.l (b.take 32)=false then some ⟨x.l++[entP n x b],x.good+z,x.whole⟩ else none:=by
 unfold Yg; rw [if_pos hk]
theorem Qpm {n:Int} {x:Scn} {k:UInt8} {b:List UInt8} {z:Nat} (hk:k=3):Yg n x k b z=if b=JR x.l.length then some ⟨x.l,x.good+z,true⟩ else none:=by
 unfold Yg; rw [if_neg (by rw [hk]; decide),if_pos hk]
theorem takeP_4 {n:Int} {x:Scn} {k:UInt8} {b:List UInt8} {z:Nat} (h2:k≠2) (h3:k≠3):Yg n x k b z=none:=by
 unfold Yg; rw [if_neg h2,if_neg h3]
theorem Qjf {k:UInt8} {m:Nat} (hm:m<256) (h:(k.toNat:Int)=(m:Int)):k=UInt8.ofNat m:=by
 apply UInt8.toNat.inj
 rw [UInt8.toNat_ofNat']
 omega
theorem Qsx (s:List UInt8) (n:Int) (w:World) (hs:s.length≤1099511627776):Calls Tryz.prog 101 #[Qv s,.int .i64 n] w (VA w (Zp s n)):=by
 refine Qj (args:=[Qv s,.int .i64 n]) 114 Tryz.func101 Z Z Z<|Qt [(0,Qv s),(1,.int .i64 n)] ?_ ⟨Z,Z,tvA⟩
 have bw:=Below.refl w.heap.size w
 refine Qa<|Jm inf39 Z (fun g4 w1 hB4 hg4 hb hl4=>?_)
 replace bw:=Ql bw hb;have zz1:=hb.size;clear hb
 refine sa Z Z<|Wn<|tN<|Qe<|Qa<|sm Z Z<|st (QJ Z Z) Z<|sb Z Z (fun h13=>?_) (fun h13=>?_)
 ·replace h13:=Qs h13
  refine gN Z Z Z Z<|gN Z Z Z Z<|st (Qm Z Z) Z<|Wn<|tN<|QO Z (Z)<|Qa<|st (Ja Z (bfz _)) Z<|QY Z Z hB4 siz39 Z Z (fun w2 bB cC=>?_)
  replace hB4:=bB;clear bB;replace bw:=Ji bw cC Qb;have zz2:=cC.size;clear cC
  refine sa Z Z<|Wn<|tN<|Qg<|tR<|(KW Z Z hB4 uz39 Z siz39 Z (YS ?_ bw)).1
  unfold Zp;rw [if_pos (by unfold QU; rw [decide_eq_false_iff_not]; omega)]
 ·replace h13:=Qs h13
  refine gY Z Z Z<|sm Z Z<|gY Z Z Z<|st (Jg Z Z) Z<|st (Qq Z Z) Z<|Wn<|tN<|Qx Z (fun h16=>?_) (fun h16=>?_)
  ·replace h16:=Qs h16
   refine Qa<|st (Ja Z (bfz _)) Z<|QY Z Z hB4 siz39 Z Z (fun w3 bB cC=>?_)
   replace hB4:=bB;clear bB;replace bw:=Ji bw cC Qb;have zz3:=cC.size;clear cC
   refine sa Z Z<|Wn<|tN<|Qg<|tR<|(KW Z Z hB4 uz39 Z siz39 Z (YS ?_ bw)).1
   unfold Zp;rw [if_pos (by unfold QU; rw [decide_eq_false_iff_not]; omega)]
  ·replace h16:=Qs h16
   have hr:¬QU n=false:=by unfold QU; rw [decide_eq_false_iff_not]; omega
   have hn0:0≤n∧n≤999999:=by omega
   refine Qf<|tN<|Qa<|sm Z Z ?_
   have hNx:=Qeh s w1 hs
   obtain ⟨⟨k0,b0,z0,e0⟩,hnm0⟩:∃ r,QG s=r:=⟨_,rfl⟩
   rw [hnm0] at hNx;simp only [Qkb] at hNx;refine sc _ fz105 Z Qo Z Z (Q3 (hNx) fun w4 hb=>?_);replace bw:=Ql bw hb;replace hB4:=hB4.bel hb;have zz4:=hb.size;clear hb
   refine sm Z Z<|st (Qu Z Z) Z<|st (Qu Z Z) Z<|st (Qu Z Z) Z<|st (Qu Z Z) Z<|sa Z Z<|sa Z Z<|sa Z Z<|sa Z Z<|Wn<|tN<|Qe<|Qa<|sm Z Z<|st (QC Z Z) Z<|sb Z Z (fun h27=>?_) (fun h27=>?_)
   ·replace h27:=Qs h27
    refine gN Z Z Z Z<|gN Z Z Z Z<|st (Qm Z Z) Z<|sm Z Z<|gN Z Z Z Z<|gN Z Z Z Z<|gN Z Z Z Z<|gN Z Z Z Z<|st (Qm Z Z) Z<|Wn<|tN<|QO Z (Z)<|Qa<|st (Ja Z (bfz _)) Z<|QY Z Z hB4 siz39 Z Z (fun w5 bB cC=>?_)
    replace hB4:=bB;clear bB;replace bw:=Ji bw cC Qb;have zz5:=cC.size;clear cC
    refine sa Z Z<|Wn<|tN<|Qg<|tR<|(KW Z Z hB4 uz39 Z siz39 Z (YS ?_ bw)).1
    have hh:UC n s=false:=by
     unfold UC;rw [hnm0,decide_eq_false_iff_not];rintro ⟨h1,h2,h3⟩;exact h27 h1
    unfold Zp;rw [if_neg hr,if_pos hh]
   ·replace h27:=Qs h27
    refine gY Z Z Z<|sm Z Z<|gY Z Z Z<|st (QC Z Z) Z<|st (Qq Z Z) Z<|sb Z Z (fun h31=>?_) (fun h31=>?_)
    ·replace h31:=Qs h31
     refine gN Z Z Z Z<|gN Z Z Z Z<|gN Z Z Z Z<|gN Z Z Z Z<|st (Qm Z Z) Z<|Wn<|tN<|QO Z (Z)<|Qa<|st (Ja Z (bfz _)) Z<|QY Z Z hB4 siz39 Z Z (fun w6 bB cC=>?_)
     replace hB4:=bB;clear bB;replace bw:=Ji bw cC Qb;have zz6:=cC.size;clear cC
     refine sa Z Z<|Wn<|tN<|Qg<|tR<|(KW Z Z hB4 uz39 Z siz39 Z (YS ?_ bw)).1
     have hh:UC n s=false:=by
      unfold UC;rw [hnm0,decide_eq_false_iff_not];rintro ⟨h1,h2,h3⟩;exact h31 (by have h2:k0=1:=h2; rw [h2]; rfl)
     unfold Zp;rw [if_neg hr,if_pos hh]
    ·replace h31:=Qs h31
     refine gY Z Z Z<|sm Z Z<|gY Z Z Z<|sm Z Z<|gY Z Z Z<|sc _ fz86 Z Qo Z Z (Q3 (YJ n _ Qb Qb) fun w7 hb=>?_)
     replace bw:=Ql bw hb;replace hB4:=hB4.bel hb;have zz7:=hb.size;clear hb
     refine gY Z Z Z<|st (Y7 Z Z) Z<|st (Qq Z Z) Z<|Wn<|tN<|Qx Z (fun h36=>?_) (fun h36=>?_)
     ·replace h36:=Qs h36
      refine Qa<|st (Ja Z (bfz _)) Z<|QY Z Z hB4 siz39 Z Z (fun w8 bB cC=>?_)
      replace hB4:=bB;clear bB;replace bw:=Ji bw cC Qb;have zz8:=cC.size;clear cC
      refine sa Z Z<|Wn<|tN<|Qg<|tR<|(KW Z Z hB4 uz39 Z siz39 Z (YS ?_ bw)).1
      have hh:UC n s=false:=by
       unfold UC;rw [hnm0,decide_eq_false_iff_not];rintro ⟨h1,h2,h3⟩;exact h36 h3
      unfold Zp;rw [if_neg hr,if_pos hh]
     ·replace h36:=Qs h36
      have hh:UC n s=true:=by
       unfold UC;rw [hnm0,decide_eq_true_eq];exact ⟨Decidable.of_not_not h27,Qjf (m:=1) QF (Decidable.of_not_not h31),Decidable.of_not_not h36⟩
      have hok0:=SOk.start hh
      have hsc:Zp s n=(ZF n s s.length ⟨[],z0,false⟩,0):=by
       unfold Zp;rw [if_neg hr,if_neg (by rw [hh]; decide),hnm0]
      have hz0:0<z0:=by
       have:=KX (s:=s) (by rw [hnm0]; exact Decidable.of_not_not h27)
       rw [hnm0] at this;have h5:=this.1;simp only at h5
       omega
      rw [hnm0] at hok0
      refine Qf<|tN<|Qa<|sm Z Z<|st (Ja Z (bfg _ _)) Z<|Jm inf39 Z (fun g10 w9 hB10 hg10 hb hl10=>?_)
      replace bw:=Ql bw hb;replace hB4:=hB4.bel hb;have zz9:=hb.size;clear hb;refine QY Z Z hB10 siz39 Z Z (fun w10 bB cC=>?_);replace hB10:=bB;clear bB;replace hB4:=hB4.chg cC Z5;replace bw:=Ji bw cC Qb;have zz10:=cC.size;clear cC
      refine Wn<|tN<|Qe<|Qp<|JG (fun nw11_ lw11_ w11=>∃ x:Scn,∃ v:Value,∃ m:Nat,nw11_=s.length-x.good∧lw11_=([(0,Qv s),(1,.int .i64 n),(4,.pointer (some ⟨g4,0,none⟩)),(10,.pointer (some ⟨g10,0,none⟩))]:Env)∧(∀ k,v.ownBlock=some k→w.heap.size≤k)∧(Blk w11 g4 39 #[.slice none 0 0,.int .i64 0,.bool false])∧(Blk w11 g10 39 #[v,.int .i64 (x.good:Nat),.bool x.whole])∧(Row w11 95 4 v x.l.length (x.l.flatMap Jh))∧(SOk s n x)∧(Zp s n=(ZF n s m x,0))∧(s.length<m+x.good)∧(Below w.heap.size w w11)) _ ⟨_,⟨⟨[],z0,false⟩,.slice none 0 0,s.length,Z,Z,by simp [Value.ownBlock],hB4,hB10,Row.nil _ _ _,hok0,hsc,by simp; omega,bw⟩,⟨Z,Z,Z,Z,tvA⟩⟩ ?_
      clear hB4 hB10 bw;rintro nw11_ lw11_ w11 ⟨x,v,m,rfl,rfl,hvo,hB4,hB10,hR,hok,heqm,hm,bw⟩;have zz11:=bw.size;have hlt_hB4_w11:=hB4.lt;have hlt_hB10_w11:=hB10.lt;have hgd:=hok.g;obtain ⟨av,cv,rfl,_,_⟩:=hR.shape;have hll:=hok.l
      obtain ⟨⟨k,b,z,e⟩,hnm⟩:∃ r,QG (s.drop x.good)=r:=⟨_,rfl⟩
      have hst:Zo n s x=if x.whole=true then none else if e≠0 then none else Yg n x k b z:=by unfold Zo; rw [hnm]
      have hbl:b.length≤s.length:=by
       have hl:(QG (s.drop x.good)).2.1.length≤(s.drop x.good).length:=UV _;rw [hnm,List.length_drop] at hl;simp only at hl
       omega
      have hzl:e=0→x.good+z≤s.length:=fun he=>by
       have:=KX (s:=s.drop x.good) (by rw [hnm]; exact he)
       rw [hnm,List.length_drop] at this
       have:=this.2
       simp only at this
       omega
      refine Qe<|Qa<|st (Qk Qhs Z) Z<|st (Qi Z hB10 uz4 Z Z) Z<|st (Jk Z) Z<|Wn<|tN<|Qx Z (fun h42=>?_) (fun h42=>?_)
      ·replace h42:=Qs h42
       have hwf:x.whole=false:=by cases h:x.whole with|false=>rfl|true=>rw [h] at h42; exact absurd h42 QF
       refine Qf<|tN<|Qp<|Qa<|sm Z Z<|st (Qk XD Z) Z<|st (Qi Z hB10 uz3 Z Z) Z<|st (Ka (i:=x.good) Z Z uz9 Z hgd) Z ?_
       have hNx:=Qeh (s.drop x.good) w11 (by rw [List.length_drop]; omega);rw [hnm] at hNx;simp only [Qkb] at hNx;refine sc _ fz105 Z Qo Z Z (Q3 (hNx) fun w12 hb=>?_);replace bw:=Ql bw hb;replace hB4:=hB4.bel hb;replace hB10:=hB10.bel hb;replace hR:=hR.bel hb;have zz12:=hb.size;clear hb
       refine sm Z Z<|st (Qu Z Z) Z<|st (Qu Z Z) Z<|st (Qu Z Z) Z<|st (Qu Z Z) Z<|sa Z Z<|sa Z Z<|sa Z Z<|sa Z Z<|Wn<|tN<|Qe<|Qa<|sm Z Z<|st (QC Z Z) Z<|Wn<|tN<|Qx Z (fun h54=>?_) (fun h54=>?_)
       ·replace h54:=Qs h54
        have hst0:Zo n s x=none:=by rw [hst,if_neg (by rw [hwf]; decide),if_pos h54]
        refine QQ<|tE<|bM Z<|tE<|bH<|tN<|Qa ?_
        rw [heqm,ZB hst0]
        refine st (QE Z hB10 uz39 Z siz39) Z<|QY Z Z hB4 siz39 Z (by simp [Value.oneCell']) (fun w13 bB cC=>?_)
        have hne2:=hR.ne2 hB4 QF;replace hR:=hR.chg cC (fun k hk e=>hne2 k hk e);replace hB4:=bB;replace bw:=Ji bw cC Qb;have zz13:=cC.size;clear bB cC hB10
        refine sa Z Z<|Wn<|tN<|Qg ?_
        exact (KW Z Z hB4 uz39 Z siz39 Z ⟨_,Z,hR.reads,hvo,bw⟩).1
       ·replace h54:=Qs h54;have he0:e=0:=Decidable.of_not_not h54
        have hst1:Zo n s x=Yg n x k b z:=by rw [hst,if_neg (by rw [hwf]; decide),if_neg h54]
        refine Qf<|tN<|Qe ?_
        by_cases hsp0_:k=2
        rotate_left
        ·refine QS (fun G=>Blk G g10 39 #[.slice av x.l.length cv,.int .i64 (x.good:Nat),.bool x.whole]∧REnts G (.slice av x.l.length cv) x.l) [0,1,2,3,4,5,6,7,8,9,10,11,12,13,14,16,17,15,18,19,20,21,22,23,24,25,26,27] [Y,Y,Y,Y,Y,Y,Y,Y,Y,Y,Y,Y,Y,Y,Y,Y,Y,false,Y,Y,Y,Y,Y,Y,Y,false,Y,Y] Qo Qo (⟨hB10.drew,hR.reads.bel (JC X4)⟩) ?_;obtain ⟨w14,hw_,hb⟩:=QN w12;rw [← hw_];clear hw_;have hS:=hb;replace bw:=Ql bw hb;replace hB4:=hB4.bel hb;replace hB10:=hB10.bel hb;replace hR:=hR.bel hb;have zz14:=hb.size;clear hb
         refine oY Z (fun G U=>(Qd Z)) Z<|oY Z (fun G U=>(QL Z Z)) Z<|oY Z (fun G U=>(Jf (c:=false) Z (decide_eq_false (fun e=>hsp0_ (Qjf (m:=2) QF e))))) Z<|JA Z Z Z Z (⟨hB10,hR.reads⟩) Z<|JA Z Z Z Z (⟨hB10,hR.reads⟩) Z<|JA Z Z Z Z (⟨hB10,hR.reads⟩) Z<|oY Z (fun G U=>(Qq Z Z)) Z<|oY Z (fun G U=>(Jf (c:=false) Z (Z))) Z<|JA Z Z Z Z (⟨hB10,hR.reads⟩) Z<|JA Z Z Z Z (⟨hB10,hR.reads⟩) Z<|JA Z Z Z Z (⟨hB10,hR.reads⟩) Z<|oY Z (fun G U=>(Qq Z Z)) Z<|oY Z (fun G U=>(Jf (c:=false) Z (Z))) Z<|JA Z Z Z Z (⟨hB10,hR.reads⟩) Z<|JA Z Z Z Z (⟨hB10,hR.reads⟩) Z<|JA Z Z Z Z (⟨hB10,hR.reads⟩) Z<|JA Z Z Z Z (⟨hB10,hR.reads⟩) Z<|JA Z Z Z Z (⟨hB10,hR.reads⟩) Z<|JA Z Z Z Z (⟨hB10,hR.reads⟩) Z<|oY Z (fun G U=>(Qq Z Z)) Z<|oY Z (fun G U=>(Jf (c:=false) Z (Z))) Z<|JA Z Z Z Z (⟨hB10,hR.reads⟩) Z<|JA Z Z Z Z (⟨hB10,hR.reads⟩) Z<|JA Z Z Z Z (⟨hB10,hR.reads⟩) Z<|JA Z Z Z Z (⟨hB10,hR.reads⟩) Z<|JA Z Z Z Z (⟨hB10,hR.reads⟩) Z<|JA Z Z Z Z (⟨hB10,hR.reads⟩) Z<|oY Z (fun G U=>(Qq Z Z)) Z<|oN<|nN<|QX Z (Z) ?_
         refine Qa<|sm Z Z<|st (QL Z Z) Z<|sb Z Z (fun h99=>?_) (fun h99=>?_)
         ·replace h99:=Qs h99
          refine gY Z Z Z<|sm Z Z<|gY Z Z Z<|st (Qk KH Z) Z<|gY Z Z Z<|st (Qi Z hB10 uz35 Z Z) Z<|gY Z Z Z<|st (QT Z Z uz35) Z<|gY Z Z Z<|sc _ fz86 Z Qo Z Z (Q3 (YJ (x.l.length:Int) _ Qb Qb) fun w15 hb=>?_)
          replace bw:=Ql bw hb;replace hB4:=hB4.bel hb;replace hB10:=hB10.bel hb;replace hR:=hR.bel hb;have zz15:=hb.size;clear hb
          refine gY Z Z Z<|st (KR Z Z) Z<|st (Qm Z Z) Z<|Wn<|tN<|Qx Z (fun h106=>?_) (fun h106=>?_)
          ·replace h106:=Qs h106;have hk3:k=3:=Qjf (m:=3) QF h99
           have hstep:Zo n s x=some ⟨x.l,x.good+z,true⟩:=by rw [hst1,Qpm hk3,if_pos h106]
           obtain ⟨y,hyd⟩:∃ y:Scn,y=⟨x.l,x.good+z,true⟩:=⟨_,rfl⟩
           rw [← hyd] at hstep;have hvn:=hvo;have hRn:=hR
           refine Qw<|st (Qk Qhs Z) Z<|KL Z Z hB10 siz4 Z Q0 (fun w16 bB cC=>?_)
           have hRn:=hRn.chg cC (fun k hk e=>hR.ne2 hB10 QF k hk e);replace hB10:=bB;replace hB4:=hB4.chg cC (by show ¬g4=g10; omega);replace bw:=Ji bw cC Qb;have zz16:=cC.size;clear bB cC hR
           refine Wn<|tN<|Qw ?_
           obtain ⟨hg5,hgn,_,_⟩:=UM hstep hgd;have hokn:=VE hstep hok
           have hm0:0<m:=by omega
           have heqn:Zp s n=(ZF n s (m-1) y,0):=by rw [heqm,Qaa hstep hm0]
           have hmn:s.length<m-1+y.good:=by omega
           have hzz:=hzl he0
           refine st (Qk XD Z) Z<|st (Qi Z hB10 uz3 Z Z) Z<|sm Z Z<|st (Qn Z Z Qb) Z<|st (Qk XD Z) Z<|KL Z Z hB10 siz3 Z Q0 (fun w17 bB cC=>?_)
           have hne2:=hRn.ne2 hB10 QF;replace hRn:=hRn.chg cC (fun k hk e=>hne2 k hk e);replace hB4:=hB4.chg cC (by show ¬g4=g10; omega);replace bw:=Ji bw cC Qb;have zz17:=cC.size;have hBn:=bB;clear bB cC hB10
           refine Wn<|bN<|tN ⟨_,_,?_,⟨y,_,m-1,Z,Z,hvn,hB4,by subst hyd; exact hBn,by subst hyd; first|exact hRn|(rw [List.length_append,List.flatMap_append]; simpa [Value.cells,entP] using hRn),hokn,heqn,hmn,bw⟩,⟨Z,Z,Z,Z,tvA⟩⟩
           show s.length-y.good<s.length-x.good; omega
          ·replace h106:=Qs h106
           refine QQ<|tE<|bM Z<|tE<|bH<|tN<|Qa ?_
           have hst0:Zo n s x=none:=by rw [hst1,Qpm (Qjf (m:=3) QF h99),if_neg h106]
           rw [heqm,ZB hst0]
           refine st (QE Z hB10 uz39 Z siz39) Z<|QY Z Z hB4 siz39 Z (by simp [Value.oneCell']) (fun w18 bB cC=>?_)
           have hne2:=hR.ne2 hB4 QF;replace hR:=hR.chg cC (fun k hk e=>hne2 k hk e);replace hB4:=bB;replace bw:=Ji bw cC Qb;have zz18:=cC.size;clear bB cC hB10
           refine sa Z Z<|Wn<|tN<|Qg ?_
           exact (KW Z Z hB4 uz39 Z siz39 Z ⟨_,Z,hR.reads,hvo,bw⟩).1
         ·replace h99:=Qs h99
          refine gN Z Z Z Z<|gN Z Z Z Z<|gN Z Z Z Z<|gN Z Z Z Z<|gN Z Z Z Z<|gN Z Z Z Z<|st (Qq Z Z) Z<|Wn<|tN<|QX Z (Z)<|QQ<|tE<|bM Z<|tE<|bH<|tN<|Qa ?_
          have hst0:Zo n s x=none:=by rw [hst1,takeP_4 hsp0_ (fun e=>h99 (by rw [e]; rfl))]
          rw [heqm,ZB hst0]
          refine st (QE Z hB10 uz39 Z siz39) Z<|QY Z Z hB4 siz39 Z (by simp [Value.oneCell']) (fun w19 bB cC=>?_)
          have hne2:=hR.ne2 hB4 QF;replace hR:=hR.chg cC (fun k hk e=>hne2 k hk e);replace hB4:=bB;replace bw:=Ji bw cC Qb;have zz19:=cC.size;clear bB cC hB10
          refine sa Z Z<|Wn<|tN<|Qg ?_
          exact (KW Z Z hB4 uz39 Z siz39 Z ⟨_,Z,hR.reads,hvo,bw⟩).1
        by_cases hsp1_:33≤b.length
        rotate_left
        ·refine QS (fun G=>Blk G g10 39 #[.slice av x.l.length cv,.int .i64 (x.good:Nat),.bool x.whole]∧REnts G (.slice av x.l.length cv) x.l) [0,1,2,3,4,5,6,7,8,9,10,11,12,13,14,16,17,15,18,19,20,21,22,23,24,25,26,27] [Y,Y,Y,Y,Y,Y,Y,Y,Y,Y,Y,Y,Y,Y,Y,Y,Y,false,Y,Y,Y,Y,Y,Y,Y,false,Y,Y] Qo Qo (⟨hB10.drew,hR.reads.bel (JC X4)⟩) ?_;obtain ⟨w20,hw_,hb⟩:=QN w12;rw [← hw_];clear hw_;have hS:=hb;replace bw:=Ql bw hb;replace hB4:=hB4.bel hb;replace hB10:=hB10.bel hb;replace hR:=hR.bel hb;have zz20:=hb.size;clear hb
         refine oY Z (fun G U=>(Qd Z)) Z<|oY Z (fun G U=>(QL Z Z)) Z<|oY Z (fun G U=>(Jf (c:=true) Z (decide_eq_true (by rw [hsp0_]; rfl)))) Z ?_
         refine Q4 Z Z Z Z (fun G U=>(Qd Z)) Z<|Q4 Z Z Z Z (fun G U=>(QP Z Z uz9)) Z<|Q4 Z Z Z Z (fun G U=>(Z1 Z Z)) Z<|oY Z (fun G U=>(Qm Z Z)) Z<|oY Z (fun G U=>(Jf (c:=false) Z (decide_eq_false Qb))) Z<|JA Z Z Z Z (⟨hB10,hR.reads⟩) Z<|JA Z Z Z Z (⟨hB10,hR.reads⟩) Z<|JA Z Z Z Z (⟨hB10,hR.reads⟩) Z<|oY Z (fun G U=>(Qq Z Z)) Z<|oY Z (fun G U=>(Jf (c:=false) Z (Z))) Z<|JA Z Z Z Z (⟨hB10,hR.reads⟩) Z<|JA Z Z Z Z (⟨hB10,hR.reads⟩) Z<|JA Z Z Z Z (⟨hB10,hR.reads⟩) Z<|JA Z Z Z Z (⟨hB10,hR.reads⟩) Z<|JA Z Z Z Z (⟨hB10,hR.reads⟩) Z<|JA Z Z Z Z (⟨hB10,hR.reads⟩) Z<|oY Z (fun G U=>(Qq Z Z)) Z<|oY Z (fun G U=>(Jf (c:=false) Z (Z))) Z<|JA Z Z Z Z (⟨hB10,hR.reads⟩) Z<|JA Z Z Z Z (⟨hB10,hR.reads⟩) Z<|JA Z Z Z Z (⟨hB10,hR.reads⟩) Z<|JA Z Z Z Z (⟨hB10,hR.reads⟩) Z<|JA Z Z Z Z (⟨hB10,hR.reads⟩) Z<|JA Z Z Z Z (⟨hB10,hR.reads⟩) Z<|oY Z (fun G U=>(Qq Z Z)) Z<|oN<|nN<|QX Z (Z)<|Qa<|sm Z Z<|st (QL Z Z) Z ?_
         refine sbN Z (decide_eq_false (by rw [hsp0_]; decide)) Z ?_
         refine gN Z Z Z Z<|gN Z Z Z Z<|gN Z Z Z Z<|gN Z Z Z Z<|gN Z Z Z Z<|gN Z Z Z Z<|st (Qq Z Z) Z<|Wn<|tN<|QX Z (Z)<|QQ<|tE<|bM Z<|tE<|bH<|tN<|Qa ?_
         have hst0:Zo n s x=none:=by rw [hst1,VD hsp0_,if_neg (fun e=>by have:=e.1; unfold Ke at this; rw [decide_eq_true_eq] at this; exact hsp1_ this.1)]
         rw [heqm,ZB hst0]
         refine st (QE Z hB10 uz39 Z siz39) Z<|QY Z Z hB4 siz39 Z (by simp [Value.oneCell']) (fun w21 bB cC=>?_)
         have hne2:=hR.ne2 hB4 QF;replace hR:=hR.chg cC (fun k hk e=>hne2 k hk e);replace hB4:=bB;replace bw:=Ji bw cC Qb;have zz21:=cC.size;clear bB cC hB10
         refine sa Z Z<|Wn<|tN<|Qg ?_
         exact (KW Z Z hB4 uz39 Z siz39 Z ⟨_,Z,hR.reads,hvo,bw⟩).1
        by_cases hsp2_:b.length≤1056
        rotate_left
        ·refine QS (fun G=>Blk G g10 39 #[.slice av x.l.length cv,.int .i64 (x.good:Nat),.bool x.whole]∧REnts G (.slice av x.l.length cv) x.l) [0,1,2,3,4,5,6,7,8,9,10,11,12,13,14,16,17,15,18,19,20,21,22,23,24,25,26,27] [Y,Y,Y,Y,Y,Y,Y,Y,Y,Y,Y,Y,Y,Y,Y,Y,Y,false,Y,Y,Y,Y,Y,Y,Y,false,Y,Y] Qo Qo (⟨hB10.drew,hR.reads.bel (JC X4)⟩) ?_;obtain ⟨w22,hw_,hb⟩:=QN w12;rw [← hw_];clear hw_;have hS:=hb;replace bw:=Ql bw hb;replace hB4:=hB4.bel hb;replace hB10:=hB10.bel hb;replace hR:=hR.bel hb;have zz22:=hb.size;clear hb
         refine oY Z (fun G U=>(Qd Z)) Z<|oY Z (fun G U=>(QL Z Z)) Z<|oY Z (fun G U=>(Jf (c:=true) Z (decide_eq_true (by rw [hsp0_]; rfl)))) Z ?_
         refine Q4 Z Z Z Z (fun G U=>(Qd Z)) Z<|Q4 Z Z Z Z (fun G U=>(QP Z Z uz9)) Z<|Q4 Z Z Z Z (fun G U=>(Z1 Z Z)) Z<|oY Z (fun G U=>(Qm Z Z)) Z<|oY Z (fun G U=>(Jf (c:=true) Z (decide_eq_true Qb))) Z<|Q4 Z Z Z Z (fun G U=>(Qd Z)) Z<|Q4 Z Z Z Z (fun G U=>(QP Z Z uz9)) Z<|Q4 Z Z Z Z (fun G U=>(V7 Z Z)) Z<|oY Z (fun G U=>(Qm Z Z)) Z<|oY Z (fun G U=>(Jf (c:=false) Z (decide_eq_false Qb))) Z<|JA Z Z Z Z (⟨hB10,hR.reads⟩) Z<|JA Z Z Z Z (⟨hB10,hR.reads⟩) Z<|JA Z Z Z Z (⟨hB10,hR.reads⟩) Z<|JA Z Z Z Z (⟨hB10,hR.reads⟩) Z<|JA Z Z Z Z (⟨hB10,hR.reads⟩) Z<|JA Z Z Z Z (⟨hB10,hR.reads⟩) Z<|oY Z (fun G U=>(Qq Z Z)) Z<|oY Z (fun G U=>(Jf (c:=false) Z (Z))) Z<|JA Z Z Z Z (⟨hB10,hR.reads⟩) Z<|JA Z Z Z Z (⟨hB10,hR.reads⟩) Z<|JA Z Z Z Z (⟨hB10,hR.reads⟩) Z<|JA Z Z Z Z (⟨hB10,hR.reads⟩) Z<|JA Z Z Z Z (⟨hB10,hR.reads⟩) Z<|JA Z Z Z Z (⟨hB10,hR.reads⟩) Z<|oY Z (fun G U=>(Qq Z Z)) Z<|oN<|nN<|QX Z (Z)<|Qa<|sm Z Z<|st (QL Z Z) Z ?_
         refine sbN Z (decide_eq_false (by rw [hsp0_]; decide)) Z ?_
         refine gN Z Z Z Z<|gN Z Z Z Z<|gN Z Z Z Z<|gN Z Z Z Z<|gN Z Z Z Z<|gN Z Z Z Z<|st (Qq Z Z) Z<|Wn<|tN<|QX Z (Z)<|QQ<|tE<|bM Z<|tE<|bH<|tN<|Qa ?_
         have hst0:Zo n s x=none:=by rw [hst1,VD hsp0_,if_neg (fun e=>by have:=e.1; unfold Ke at this; rw [decide_eq_true_eq] at this; exact hsp2_ this.2.1)]
         rw [heqm,ZB hst0]
         refine st (QE Z hB10 uz39 Z siz39) Z<|QY Z Z hB4 siz39 Z (by simp [Value.oneCell']) (fun w23 bB cC=>?_)
         have hne2:=hR.ne2 hB4 QF;replace hR:=hR.chg cC (fun k hk e=>hne2 k hk e);replace hB4:=bB;replace bw:=Ji bw cC Qb;have zz23:=cC.size;clear bB cC hB10
         refine sa Z Z<|Wn<|tN<|Qg ?_
         exact (KW Z Z hB4 uz39 Z siz39 Z ⟨_,Z,hR.reads,hvo,bw⟩).1
        by_cases hsp3_:sha (b.drop 32)=b.take 32
        rotate_left
        ·refine QS (fun G=>Blk G g10 39 #[.slice av x.l.length cv,.int .i64 (x.good:Nat),.bool x.whole]∧REnts G (.slice av x.l.length cv) x.l) [0,1,2,3,4,5,6,7,8,9,10,11,12,13,14,16,17,15,18,19,20,21,22,23,24,25,26,27] [Y,Y,Y,Y,Y,Y,Y,Y,Y,Y,Y,Y,Y,Y,Y,Y,Y,false,Y,Y,Y,Y,Y,Y,Y,false,Y,Y] Qo Qo (⟨hB10.drew,hR.reads.bel (JC X4)⟩) ?_;obtain ⟨w24,hw_,hb⟩:=QN w12;rw [← hw_];clear hw_;have hS:=hb;replace bw:=Ql bw hb;replace hB4:=hB4.bel hb;replace hB10:=hB10.bel hb;replace hR:=hR.bel hb;have zz24:=hb.size;clear hb
         refine oY Z (fun G U=>(Qd Z)) Z<|oY Z (fun G U=>(QL Z Z)) Z<|oY Z (fun G U=>(Jf (c:=true) Z (decide_eq_true (by rw [hsp0_]; rfl)))) Z ?_
         refine Q4 Z Z Z Z (fun G U=>(Qd Z)) Z<|Q4 Z Z Z Z (fun G U=>(QP Z Z uz9)) Z<|Q4 Z Z Z Z (fun G U=>(Z1 Z Z)) Z<|oY Z (fun G U=>(Qm Z Z)) Z<|oY Z (fun G U=>(Jf (c:=true) Z (decide_eq_true Qb))) Z<|Q4 Z Z Z Z (fun G U=>(Qd Z)) Z<|Q4 Z Z Z Z (fun G U=>(QP Z Z uz9)) Z<|Q4 Z Z Z Z (fun G U=>(V7 Z Z)) Z<|oY Z (fun G U=>(Qm Z Z)) Z<|oY Z (fun G U=>(Jf (c:=true) Z (decide_eq_true Qb))) Z<|Q4 Z Z Z Z (fun G U=>(Qd Z)) Z<|Q4 Z Z Z Z (fun G U=>(Ka (i:=32) Z Z uz9 Z Qb)) Z<|Q4 Z Z Z Z (fun G U=>(Qd Z)) Z<|Q4 Z Z Z Z (fun G U=>(KQ (j:=32) Z Z uz9 Z Qb)) Z<|oL Z (fun Q_ hQ_ hP_=>(gY Z Z Z (sc _ fz57 Z Qo Z Z (Q3 (XK (b.drop 32) _ (by rw [List.length_drop]; omega)) fun w25 hb=>?_))))
         replace bw:=Ql bw hb;replace hB4:=hB4.bel hb;replace hB10:=hB10.bel hb;replace hR:=hR.bel hb;have zz25:=hb.size;clear hb
         refine Wn<|hQ_ _ _ (⟨hB10,hR.reads⟩) ?_
         clear hQ_ hP_ Q_
         refine Q4 Z Z Z Z (fun G U=>(KR Z Z)) Z<|oY Z (fun G U=>(Qm Z Z)) Z<|oY Z (fun G U=>(Jf (c:=false) Z (decide_eq_false hsp3_))) Z<|JA Z Z Z Z (⟨hB10,hR.reads⟩) Z<|JA Z Z Z Z (⟨hB10,hR.reads⟩) Z<|JA Z Z Z Z (⟨hB10,hR.reads⟩) Z<|JA Z Z Z Z (⟨hB10,hR.reads⟩) Z<|JA Z Z Z Z (⟨hB10,hR.reads⟩) Z<|JA Z Z Z Z (⟨hB10,hR.reads⟩) Z<|oY Z (fun G U=>(Qq Z Z)) Z<|oN<|nN<|QX Z (Z)<|Qa<|sm Z Z<|st (QL Z Z) Z<|sbN Z (decide_eq_false (by rw [hsp0_]; decide)) Z ?_
         refine gN Z Z Z Z<|gN Z Z Z Z<|gN Z Z Z Z<|gN Z Z Z Z<|gN Z Z Z Z<|gN Z Z Z Z<|st (Qq Z Z) Z<|Wn<|tN<|QX Z (Z)<|QQ<|tE<|bM Z<|tE<|bH<|tN<|Qa ?_
         have hst0:Zo n s x=none:=by rw [hst1,VD hsp0_,if_neg (fun e=>by have:=e.1; unfold Ke at this; rw [decide_eq_true_eq] at this; exact hsp3_ this.2.2)]
         rw [heqm,ZB hst0]
         refine st (QE Z hB10 uz39 Z siz39) Z<|QY Z Z hB4 siz39 Z (by simp [Value.oneCell']) (fun w26 bB cC=>?_)
         have hne2:=hR.ne2 hB4 QF;replace hR:=hR.chg cC (fun k hk e=>hne2 k hk e);replace hB4:=bB;replace bw:=Ji bw cC Qb;have zz26:=cC.size;clear bB cC hB10
         refine sa Z Z<|Wn<|tN<|Qg ?_
         exact (KW Z Z hB4 uz39 Z siz39 Z ⟨_,Z,hR.reads,hvo,bw⟩).1
        refine QS (fun G=>Blk G g10 39 #[.slice av x.l.length cv,.int .i64 (x.good:Nat),.bool x.whole]∧REnts G (.slice av x.l.length cv) x.l) [0,1,2,3,4,5,6,7,8,9,10,11,12,13,14,16,17,15,18,19,20,21,22,23,24,25,26,27] [Y,Y,Y,Y,Y,Y,Y,Y,Y,Y,Y,Y,Y,Y,Y,Y,Y,false,Y,Y,Y,Y,Y,Y,Y,false,Y,Y] Qo Qo (⟨hB10.drew,hR.reads.bel (JC X4)⟩) ?_;obtain ⟨w27,hw_,hb⟩:=QN w12;rw [← hw_];clear hw_;have hS:=hb;replace bw:=Ql bw hb;replace hB4:=hB4.bel hb;replace hB10:=hB10.bel hb;replace hR:=hR.bel hb;have zz27:=hb.size;clear hb
        refine oY Z (fun G U=>(Qd Z)) Z<|oY Z (fun G U=>(QL Z Z)) Z<|oY Z (fun G U=>(Jf (c:=true) Z (decide_eq_true (by rw [hsp0_]; rfl)))) Z ?_
        refine Q4 Z Z Z Z (fun G U=>(Qd Z)) Z<|Q4 Z Z Z Z (fun G U=>(QP Z Z uz9)) Z<|Q4 Z Z Z Z (fun G U=>(Z1 Z Z)) Z<|oY Z (fun G U=>(Qm Z Z)) Z<|oY Z (fun G U=>(Jf (c:=true) Z (decide_eq_true Qb))) Z<|Q4 Z Z Z Z (fun G U=>(Qd Z)) Z<|Q4 Z Z Z Z (fun G U=>(QP Z Z uz9)) Z<|Q4 Z Z Z Z (fun G U=>(V7 Z Z)) Z<|oY Z (fun G U=>(Qm Z Z)) Z<|oY Z (fun G U=>(Jf (c:=true) Z (decide_eq_true Qb))) Z<|Q4 Z Z Z Z (fun G U=>(Qd Z)) Z<|Q4 Z Z Z Z (fun G U=>(Ka (i:=32) Z Z uz9 Z Qb)) Z<|Q4 Z Z Z Z (fun G U=>(Qd Z)) Z<|Q4 Z Z Z Z (fun G U=>(KQ (j:=32) Z Z uz9 Z Qb)) Z<|oL Z (fun Q_ hQ_ hP_=>(gY Z Z Z (sc _ fz57 Z Qo Z Z (Q3 (XK (b.drop 32) _ (by rw [List.length_drop]; omega)) fun w28 hb=>?_))))
        replace bw:=Ql bw hb;replace hB4:=hB4.bel hb;replace hB10:=hB10.bel hb;replace hR:=hR.bel hb;have zz28:=hb.size;clear hb
        refine Wn<|hQ_ _ _ (⟨hB10,hR.reads⟩) ?_
        clear hQ_ hP_ Q_
        refine Q4 Z Z Z Z (fun G U=>(KR Z Z)) Z<|oY Z (fun G U=>(Qm Z Z)) Z<|oY Z (fun G U=>(Jf (c:=true) Z (decide_eq_true hsp3_))) Z<|Q4 Z Z Z Z (fun G U=>(Qk KH Z)) Z<|Q4 Z Z Z Z (fun G U=>(Qi Z U.1 uz35 Z Z)) Z<|Q4 Z Z Z Z (fun G U=>(Qd Z)) Z<|Q4 Z Z Z Z (fun G U=>(KQ (j:=32) Z Z uz9 Z Qb)) Z<|oL Z (fun Q_ hQ_ hP_=>(gY Z Z Z (sc _ Tryz.func87 Z Qo Z Z (Q3 (Qee _ x.l (b.take 32) _ hR.reads) fun w29 hb=>?_))))
        replace bw:=Ql bw hb;replace hB4:=hB4.bel hb;replace hB10:=hB10.bel hb;replace hR:=hR.bel hb;have zz29:=hb.size;clear hb
        refine Wn<|hQ_ _ _ (⟨hB10,hR.reads⟩) ?_
        clear hQ_ hP_ Q_
        refine Q4 Z Z Z Z (fun G U=>(QJ Z Z)) Z<|oY Z (fun G U=>(Qm Z Z)) Z<|oN<|nN<|Qx Z (fun h82=>?_) (fun h82=>?_)
        ·replace h82:=Qs h82
         have hop:Ke b=true:=by unfold Ke; rw [decide_eq_true_eq]; exact ⟨hsp1_,hsp2_,hsp3_⟩
         have hstep:Zo n s x=some ⟨x.l++[entP n x b],x.good+z,x.whole⟩:=by rw [hst1,VD hsp0_,if_pos ⟨hop,by have:=Qkv x.l (b.take 32); rw [decide_eq_true h82] at this; simpa using this.symm⟩]
         obtain ⟨y,hyd⟩:∃ y:Scn,y=⟨x.l++[entP n x b],x.good+z,x.whole⟩:=⟨_,rfl⟩
         rw [← hyd] at hstep;refine Qis (fun G=>Blk G g10 39 #[.slice av x.l.length cv,.int .i64 (x.good:Nat),.bool x.whole]) 12 [true,true,true,true,true,true,true,true,true,true,true,false] Qo Qo (hB10.drew) ?_;obtain ⟨w30,hw_,hb⟩:=QN w29;rw [← hw_];clear hw_;have hS:=hb;replace bw:=Ql bw hb;replace hB4:=hB4.bel hb;replace hB10:=hB10.bel hb;replace hR:=hR.bel hb;have zz30:=hb.size;clear hb
         refine pY (fun G U=>(Qk KH Z)) Z<|pY (fun G U=>(Qi Z U uz35 Z Z)) Z<|pY (fun G U=>(Qd Z)) Z<|pY (fun G U=>(KQ (j:=32) Z Z uz9 Z Qb)) Z<|pY (fun G U=>(Qd Z)) Z<|pY (fun G U=>(Qk XD Z)) Z<|pY (fun G U=>(Qi Z U uz3 Z Z)) Z<|pY (fun G U=>(Qd Z)) Z<|pY (fun G U=>(QP Z Z uz9)) Z<|pY (fun G U=>(JU Z Z Qb)) Z<|pY (fun G U=>(Ja Z (brec _ _ _ _ _))) Z<|pL (fun Q_ hQ_ hP_=>(Zy Z uz35 inf95 Z Z QF QF Z (fun g94 w31 hR94 hg94 hb=>?_)))
         replace bw:=Ql bw hb;replace hR:=hR.bel hb;replace hB10:=hB10.bel hb;replace hB4:=hB4.bel hb;have hz94:=hb.size;clear hb
         refine Wn<|hQ_ _ _ (hB10) ?_
         clear hQ_ hP_ Q_
         refine pN<|Z4 Z Z uz35 inf95 Z QF hR (hR94.reads.src uz35 (Zb _)) (by simp only [maxLen]; omega) Qb Z (fun v' w32 hR2 hC2 hv2=>?_)
         obtain ⟨a',c',rfl,_,_⟩:=hR2.shape;have hvn:=JE hv2 hvo Qb;have hne:=hR2.ne2 (hB10.chg hC2 (fun hk=>hR.ne2 hB10 QF _ hk rfl)) QF;replace hB10:=hB10.chg hC2 (fun hk=>hR.ne2 hB10 QF _ hk rfl);replace hB4:=hB4.chg hC2 (fun hk=>hR.ne2 hB4 QF _ hk rfl);replace bw:=bchg bw hC2 hvo;have zz32:=hC2.size;clear hR
         refine st (Qk KH Z) Z<|KL Z Z hB10 siz35 Z Q0 (fun w33 bB cC=>?_)
         replace hB10:=bB;replace hB4:=hB4.chg cC (by show ¬g4=g10; omega);have hRn:=hR2.chg cC (fun k hk e=>hne k hk e);replace bw:=Ji bw cC Qb;have zz33:=cC.size;clear bB cC hR2
         refine Wn<|nN<|tN<|Qw ?_
         obtain ⟨hg5,hgn,_,_⟩:=UM hstep hgd;have hokn:=VE hstep hok
         have hm0:0<m:=by omega
         have heqn:Zp s n=(ZF n s (m-1) y,0):=by rw [heqm,Qaa hstep hm0]
         have hmn:s.length<m-1+y.good:=by omega
         have hzz:=hzl he0
         refine st (Qk XD Z) Z<|st (Qi Z hB10 uz3 Z Z) Z<|sm Z Z<|st (Qn Z Z Qb) Z<|st (Qk XD Z) Z<|KL Z Z hB10 siz3 Z Q0 (fun w34 bB cC=>?_)
         have hne2:=hRn.ne2 hB10 QF;replace hRn:=hRn.chg cC (fun k hk e=>hne2 k hk e);replace hB4:=hB4.chg cC (by show ¬g4=g10; omega);replace bw:=Ji bw cC Qb;have zz34:=cC.size;have hBn:=bB;clear bB cC hB10
         refine Wn<|bN<|tN ⟨_,_,?_,⟨y,_,m-1,Z,Z,hvn,hB4,by subst hyd; exact hBn,by subst hyd; first|exact hRn|(rw [List.length_append,List.flatMap_append]; simpa [Value.cells,entP] using hRn),hokn,heqn,hmn,bw⟩,⟨Z,Z,Z,Z,tvA⟩⟩
         show s.length-y.good<s.length-x.good; omega
        ·replace h82:=Qs h82
         refine Qa<|sm Z Z<|st (QL Z Z) Z<|sbN Z (decide_eq_false (by rw [hsp0_]; decide)) Z ?_
         refine gN Z Z Z Z<|gN Z Z Z Z<|gN Z Z Z Z<|gN Z Z Z Z<|gN Z Z Z Z<|gN Z Z Z Z<|st (Qq Z Z) Z<|Wn<|tN<|QX Z (Z)<|QQ<|tE<|bM Z<|tE<|bH<|tN<|Qa ?_
         have hst0:Zo n s x=none:=by rw [hst1,VD hsp0_,if_neg (fun e=>h82 (by have:=Qkv x.l (b.take 32); rw [e.2] at this; exact of_decide_eq_true this))]
         rw [heqm,ZB hst0]
         refine st (QE Z hB10 uz39 Z siz39) Z<|QY Z Z hB4 siz39 Z (by simp [Value.oneCell']) (fun w35 bB cC=>?_)
         have hne2:=hR.ne2 hB4 QF;replace hR:=hR.chg cC (fun k hk e=>hne2 k hk e);replace hB4:=bB;replace bw:=Ji bw cC Qb;have zz35:=cC.size;clear bB cC hB10
         refine sa Z Z<|Wn<|tN<|Qg ?_
         exact (KW Z Z hB4 uz39 Z siz39 Z ⟨_,Z,hR.reads,hvo,bw⟩).1
      ·replace h42:=Qs h42
       have hst0:Zo n s x=none:=by rw [hst,if_pos h42]
       refine QQ<|tE<|tE<|bH<|tN<|Qa ?_
       rw [heqm,ZB hst0]
       refine st (QE Z hB10 uz39 Z siz39) Z<|QY Z Z hB4 siz39 Z (by simp [Value.oneCell']) (fun w36 bB cC=>?_)
       have hne2:=hR.ne2 hB4 QF;replace hR:=hR.chg cC (fun k hk e=>hne2 k hk e);replace hB4:=bB;replace bw:=Ji bw cC Qb;have zz36:=cC.size;clear bB cC hB10
       refine sa Z Z<|Wn<|tN<|Qg ?_
       exact (KW Z Z hB4 uz39 Z siz39 Z ⟨_,Z,hR.reads,hvo,bw⟩).1
end
section
theorem Quq (b:UInt8):(b ||| 128).toNat=b.toNat%128+128:=by
 have h:∀ n:Fin 256,(n.val ||| 128)=n.val%128+128:=by decide
 rw [UInt8.toNat_or];exact h ⟨b.toNat,b.toNat_lt⟩
theorem uvM_uvF:∀ (f i x y:Nat) (r:List UInt8),y<128 ^ (f+1)→y<128 ^ (9-i)→i<9→(0<i→0<y)→uvM i x (uvF (f+1) y++r)=(x+y*2 ^ (7*i),i+(uvF (f+1) y).length,0):=by
 intro f
 induction f with
 | zero =>
  intro i x y r hy _ hi h0
  have hy':y<128:=by simpa using hy
  have hb:(UInt8.ofNat (y%256)).toNat=y:=by simp; omega
  rw [Qbv Qb hy',List.cons_append,List.nil_append,uvM,hb,if_neg Qb,if_pos hy']
  rfl
 | succ f ih =>
  intro i x y r hy hy9 hi h0
  by_cases h8:y<128
  ·have hb:(UInt8.ofNat (y%256)).toNat=y:=by simp; omega
   rw [Qbv Qb h8,List.cons_append,List.nil_append,uvM,hb,if_neg Qb,if_pos h8]
   rfl
  ·have hb:(UInt8.ofNat (y%256)).toNat=y%256:=by simp
   have hb2:(UInt8.ofNat (y%256) ||| 128).toNat=y%128+128:=by rw [Quq,hb]; omega
   have hi2:i+1<9:=by
    rcases Nat.lt_or_ge (i+1) 9 with h|h
    ·exact h
    ·rw [show 9-i=1 by omega] at hy9
     omega
   have e9:(128:Nat) ^ (9-i)=128 ^ (9-(i+1))*128:=by rw [show 9-i=(9-(i+1))+1 by omega,Nat.pow_succ]
   have ef:(128:Nat) ^ (f+1+1)=128 ^ (f+1)*128:=by rw [Nat.pow_succ]
   have:=ih (i+1) (x+(y%128+128-128)*2 ^ (7*i)) (y / 128) r (by rw [ef] at hy; omega) (by rw [e9] at hy9; omega) hi2 (fun _=>by omega)
   rw [Qgi Qb h8,Nat.add_sub_cancel,List.append_assoc,List.cons_append,List.nil_append,uvM,hb2,if_neg Qb,if_neg Qb,this]
   have ep:2 ^ (7*(i+1))=128*2 ^ (7*i):=by rw [show 7*(i+1)=7*i+7 by omega,Nat.pow_add,Nat.mul_comm]
   have e1:x+(y%128+128-128)*2 ^ (7*i)+y / 128*2 ^ (7*(i+1))=x+y*2 ^ (7*i):=by
    rw [ep,← Nat.mul_assoc,Nat.add_sub_cancel,Nat.add_assoc,← Nat.add_mul]
    congr 2
    omega
   rw [e1]
   have e2:i+1+(uvF (f+1) (y / 128)).length=i+((UInt8.ofNat (y%256) ||| 128)::uvF (f+1) (y / 128)).length:=by rw [List.length_cons]; omega
   rw [e2]
   rfl
theorem uvM_uvB (y:Nat) (r:List UInt8) (hy:y<128 ^ 9):uvM 0 0 (Xi y++r)=(y,(Xi y).length,0):=by
 have:=uvM_uvF 9 0 0 y r (Nat.lt_of_lt_of_le hy QF) hy QF Qb
 simpa [Xi] using this
theorem Qcc {k:UInt8} {b:List UInt8} (hk:k≠0) (hb:b.length≤1048576):KN k b=([k]++(Xi b.length++b))++fixB (Crc.crc ([k]++(Xi b.length++b))).toNat 4:=by
 unfold KN;rw [if_neg (fun e=>by rcases e with e|e; exact hk e; omega)]
theorem ZT {k:UInt8} {b:List UInt8} (hk:k≠0) (hb:b.length≤1048576):(KN k b).length=1+(Xi b.length).length+b.length+4:=by
 rw [Qcc hk hb];simp only [List.length_append,List.length_cons,List.length_nil,fixB_length]
 omega
theorem Qne {k:UInt8} {b:List UInt8} (t:List UInt8) (hk:k≠0) (hb:b.length≤1048576):QG (KN k b++t)=(k,b,(KN k b).length,0):=by
 have hl:=ZT hk hb
 obtain ⟨u,hu⟩:∃ u,Xi b.length=u:=⟨_,rfl⟩
 obtain ⟨c,hc⟩:∃ c,Crc.crc ([k]++(u++b))=c:=⟨_,rfl⟩
 have hcl:=c.toNat_lt
 obtain ⟨s,hs⟩:∃ s,KN k b++t=s:=⟨_,rfl⟩
 have hs1:s=k::(u++(b++(fixB c.toNat 4++t))):=by
  rw [← hs,Qcc hk hb,hu,hc]
  simp
 have hsl:s.length=1+u.length+b.length+4+t.length:=by
  rw [← hs,List.length_append,hl,hu]
 have hd1:s.drop 1=u++(b++(fixB c.toNat 4++t)):=by rw [hs1]; rfl
 have hduv:uvM 0 0 (s.drop 1)=(b.length,u.length,0):=by
  rw [hd1,← hu];exact uvM_uvB _ _ Qb
 have huR:X2 s 1 0=(b.length,1+u.length,0):=by
  unfold X2;rw [hduv]
  simp
 have hdu:s.drop (1+u.length)=b++(fixB c.toNat 4++t):=by
  rw [← List.drop_drop,hd1,List.drop_left]
 have hT:JP s 1 1048576=(b,1+u.length+b.length,0):=by
  unfold JP Jr;rw [huR];simp only [ne_eq,not_true_eq_false,if_false];rw [if_neg Qb,if_neg Qb,if_neg Qb,hdu,List.take_left]
 have hdb:s.drop (1+u.length+b.length)=fixB c.toNat 4++t:=by
  rw [← List.drop_drop,hdu,List.drop_left]
 have h4:(s.drop (1+u.length+b.length)).take 4=fixB c.toNat 4:=by
  rw [hdb,List.take_append_of_le_length (by rw [fixB_length]; omega),List.take_of_length_le (by rw [fixB_length]; omega)]
 have htk:s.take (1+u.length+b.length)=[k]++(u++b):=by
  have:s=([k]++(u++b))++(fixB c.toNat 4++t):=by rw [hs1]; simp
  rw [this,List.take_append_of_le_length (by simp; omega),List.take_of_length_le (by simp; omega)]
 rw [hs,hl,hu];unfold QG;rw [if_neg (by rw [hs1]; simp),if_neg (by rw [hs1]; exact hk),hT];simp only [ne_eq,not_true_eq_false,if_false];rw [if_neg Qb,h4,htk,hc,leN_fixB 4 c.toNat Qb,if_neg Q0,hs1]
 rfl
end
section
open Go.RowKit
theorem uvM_back:∀ (l:List UInt8) (i x:Nat),i≤9→(uvM i x l).2.2=0→∃ y k,uvM i x l=(x+y*2 ^ (7*i),i+k,0)∧l.take k=uvF (10-i) y∧k≤l.length∧(0<i→0<y)
 | [],i,x,_,h=>by simp [uvM] at h
 | b::l,i,x,hi,h=>by
  have hbl:=b.toNat_lt;unfold uvM at h ⊢
  split at h
  ·simp at h
  rename_i h1
  rw [if_neg h1]
  split at h
  ·rename_i h2
   rw [if_pos h2];refine ⟨b.toNat,1,Z,?_,by simp,fun h0=>by omega⟩;rw [Qbv Qb h2];simp only [List.take_succ_cons,List.take_zero]
   congr 1
   apply UInt8.toNat.inj
   rw [UInt8.toNat_ofNat']
   omega
  ·rename_i h2
   rw [if_neg h2]
   have hi8:i+1≤9:=by omega
   obtain ⟨y,k,e1,e2,e3,e4⟩:=uvM_back l (i+1) _ hi8 h;have hy:=e4 Qb;refine ⟨(b.toNat-128)+128*y,k+1,?_,?_,by simp; omega,fun _=>by omega⟩
   ·rw [e1]
    have e:2 ^ (7*(i+1))=2 ^ (7*i)*128:=by rw [Nat.mul_add,Nat.pow_add]
    rw [e]
    generalize 2 ^ (7*i)=q
    have eA:x+(b.toNat-128)*q+y*(q*128)=x+(b.toNat-128+128*y)*q:=by
     rw [Nat.add_mul,Nat.add_assoc,Nat.mul_comm q 128,← Nat.mul_assoc,Nat.mul_comm y 128]
    rw [eA,show i+1+k=i+(k+1) by omega]
   ·rw [Qgi Qb Qb,List.take_succ_cons,show 10-i-1=10-(i+1) by omega,show ((b.toNat-128)+128*y) / 128=y by omega,e2]
    have:UInt8.ofNat ((b.toNat-128+128*y)%256) ||| 128=b:=by
     apply UInt8.toNat.inj
     rw [Quq,UInt8.toNat_ofNat']
     omega
    rw [this]
    rfl
theorem Vk {s:List UInt8} (h:(QG s).2.2.2=0):s.take (QG s).2.2.1=KN (QG s).1 (QG s).2.1∧(QG s).1≠0∧(QG s).2.1.length≤1048576:=by
 unfold QG at h ⊢
 split at h
 ·simp at h
 rename_i h1
 rw [if_neg h1]
 split at h
 ·simp at h
 rename_i h2
 rw [if_neg h2]
 split at h
 ·rename_i h3; exact absurd h h3
 rename_i h3
 rw [if_neg h3]
 split at h
 ·simp at h
 rename_i h4
 rw [if_neg h4]
 split at h
 ·simp at h
 rename_i h5
 rw [if_neg h5];clear h;simp only
 obtain ⟨k,l,rfl⟩:∃ k l,s=k::l:=by cases s with|nil=>exact absurd rfl h1|cons k l=>exact ⟨k,l,rfl⟩
 have hk:(k::l).headD 0=k:=rfl;rw [hk] at h2 ⊢;have h3:=Decidable.of_not_not h3;have h5:=Decidable.of_not_not h5;unfold JP at h3 h4 h5 ⊢
 split at h3
 ·rename_i h; exact absurd h3 h
 rename_i u1
 rw [if_neg u1] at h4 h5 ⊢
 split at h3
 ·simp at h3
 rename_i u2
 rw [if_neg u2] at h4 h5 ⊢
 split at h3
 ·simp at h3
 rename_i u3
 rw [if_neg u3] at h4 h5 ⊢;clear h3;unfold X2 at u1 u2 u3 h4 h5 ⊢;rw [if_neg (show ¬(0:Int)≠0 by simp)] at u1 u2 u3 h4 h5 ⊢
 split at u1
 rotate_left
 ·rename_i h; simp only at u1; exact absurd (Decidable.of_not_not u1) h
 rename_i v1
 rw [if_pos v1] at u2 u3 h4 h5 ⊢;clear u1;simp only [List.drop_succ_cons,List.drop_zero] at v1 u2 u3 h4 h5 ⊢;obtain ⟨y,n,e1,e2,e3,_⟩:=uvM_back l 0 0 Qb v1;rw [e1] at u2 u3 h4 h5 ⊢;simp only [Nat.mul_zero,Nat.pow_zero,Nat.mul_one,Nat.zero_add,List.length_cons] at u2 u3 h4 h5 ⊢;unfold Jr at h4 h5 ⊢;rw [if_neg (show ¬(0:Int)≠0 by simp),if_neg (by simp only [List.length_cons]; omega)] at h4 h5 ⊢;simp only at h4 h5 ⊢
 have hd:(k::l).drop (1+n)=l.drop n:=by rw [Nat.add_comm,List.drop_succ_cons]
 rw [hd] at *
 have hbl:((l.drop n).take y).length=y:=by rw [List.length_take,List.length_drop]; omega
 refine ⟨?_,h2,by rw [hbl]; omega⟩
 have hp:(k::l).take (1+n+y)=[k]++(Xi y++(l.drop n).take y):=by
  rw [show 1+n+y=(n+y)+1 by omega,List.take_succ_cons,List.take_add,e2]
  rfl
 rw [List.take_add,hp,Qcc h2 (by rw [hbl]; omega),hbl]
 congr 1
 rw [hp] at h5;refine ((Qhk ?_ ?_).2 h5).symm
 ·rw [List.length_take,List.length_drop,List.length_cons]; omega
 ·exact (Crc.crc _).toNat_lt
theorem Qcn {s:List UInt8} (h:(QG s).2.2.2=0):(QG s).2.2.1=(KN (QG s).1 (QG s).2.1).length:=by
 have h1:=KX h;rw [← (Vk h).1,List.length_take]
 omega
theorem Qnd {s:List UInt8} {m:Nat} (h:(QG s).2.2.2=0) (hm:(QG s).2.2.1≤m):QG (s.take m)=QG s:=by
 obtain ⟨h1,h2,h3⟩:=Vk h;have h4:=Qcn h
 have e:s.take m=KN (QG s).1 (QG s).2.1++(s.take m).drop (QG s).2.2.1:=by
  rw [← h1]
  conv=>lhs; rw [← List.take_append_drop (QG s).2.2.1 (s.take m)]
  rw [List.take_take,Nat.min_eq_left hm]
 rw [e,Qne _ h2 h3,← h4,← h]
end
section
theorem uvM_app:∀ (l u:List UInt8) (i x:Nat),(uvM i x l).2.2=0→uvM i x (l++u)=uvM i x l
 | [],_,_,_,h=>by simp [uvM] at h
 | b::l,u,i,x,h=>by
  rw [List.cons_append];unfold uvM at h ⊢
  split
  ·rfl
  ·rename_i h1
   rw [if_neg h1] at h
   split
   ·rfl
   ·rename_i h2
    rw [if_neg h2] at h;exact uvM_app l u _ _ h
theorem Qdr {s u:List UInt8} {a:Nat} (h:a≤s.length):(s++u).drop a=s.drop a++u:=by
 rw [List.drop_append,Nat.sub_eq_zero_of_le h,List.drop_zero]
theorem uvR_app {s:List UInt8} (u:List UInt8) {a:Nat} (ha:a≤s.length) (h:(X2 s a 0).2.2=0):X2 (s++u) a 0=X2 s a 0:=by
 have e0:¬((0:Int)≠0):=by simp
 have h1:(uvM 0 0 (s.drop a)).2.2=0:=by
  refine Classical.byContradiction fun h1=>?_
  unfold X2 at h;rw [if_neg e0,if_neg h1] at h;exact h1 h
 have h2:=uvM_app _ u _ _ h1;unfold X2;rw [if_neg e0,if_neg e0,Qdr ha,h2]
theorem Qqu {s:List UInt8} (u:List UInt8) {a m:Nat} (ha:a≤s.length) (h:(JP s a m).2.2=0):JP (s++u) a m=JP s a m:=by
 have hat:=Qmf (s:=s) (at_:=a) (e:=0) ha
 have h1:(X2 s a 0).2.2=0:=by
  refine Classical.byContradiction fun h1=>?_
  unfold JP at h;rw [if_pos h1] at h;exact h1 h
 have hu:=uvR_app u ha h1;unfold JP at h ⊢;rw [hu]
 obtain ⟨⟨n,b,e⟩,hx⟩:∃ x,X2 s a 0=x:=⟨_,rfl⟩
 rw [hx] at h h1 hat ⊢;simp only at h h1 hat ⊢;subst h1
 have e0:¬((0:Int)≠0):=by simp
 rw [if_neg e0] at h;rw [if_neg e0,if_neg e0]
 by_cases h2:m<n
 ·rw [if_pos h2,if_pos h2]
 ·rw [if_neg h2] at h;rw [if_neg h2,if_neg h2]
  by_cases h3:s.length-b<n
  ·rw [if_pos h3] at h;simp at h
  ·rw [if_neg h3,if_neg (by rw [List.length_append]; omega)];unfold Jr;rw [if_neg e0,if_neg e0,if_neg h3,if_neg (by rw [List.length_append]; omega),Qdr hat,List.take_append_of_le_length (by rw [List.length_drop]; omega)]
theorem Qfi {s:List UInt8} (u:List UInt8) (h:(QG s).2.2.2=0):QG (s++u)=QG s:=by
 unfold QG at h
 split at h
 ·simp at h
 rename_i h1
 split at h
 ·simp at h
 rename_i h2
 split at h
 ·rename_i h3; exact absurd h h3
 rename_i h3
 split at h
 ·simp at h
 rename_i h4
 split at h
 ·simp at h
 rename_i h5
 have hl:1≤s.length:=by
  cases s with
  | nil=>exact absurd rfl h1
  | cons x l=>simp
 have h30:(JP s 1 1048576).2.2=0:=by simpa using h3
 have ht:=Qjh (s:=s) (a:=1) (m:=1048576) hl
 have hh:(s++u).headD 0=s.headD 0:=by
  cases s with
  | nil=>exact absurd rfl h1
  | cons x l=>rfl
 unfold QG;rw [if_neg h1,if_neg (by simp [h1]),hh,if_neg h2,if_neg h2,Qqu u hl h30,if_neg h3,if_neg h3,if_neg h4,if_neg (by rw [List.length_append]; omega),Qdr ht,List.take_append_of_le_length (by rw [List.length_drop]; omega),List.take_append_of_le_length Qb,if_neg h5]
end
section
open Go.RowKit
section
variable {F:Fence} {n:Nat} {P:Program} {N:Nat} {ds:List Deferred} {Q:Post} {l:Env} {w:World} {ops:Array Oper} {rest:List Oper} {op:Op} {ty:TypeId} {pos:String} {aft:Array Edge}
theorem gYI {dst:Option Nat} {j g:Nat} {b:Bool} (hj:(ops[j]?).bind (·.dst)=some g) (hg:lk l g=some (.bool b)) (hN:Nat.blt g N=true) (h:WLI F n P N ds ops Q (⟨dst,op,ty,pos,aft,none⟩::rest) l w) :
  WLI F n P N ds ops Q (⟨dst,op,ty,pos,aft,some (j,b)⟩::rest) l w:=by
 intro a ha;have h:=h a ha
 have hs:g<a.tmps.size:=by rw [ha.size]; exact of_decide_eq_true (by simpa [Nat.blt_eq] using hN)
 have hv:=ha.val g _ hg
 have hy:yielded ops a.tmps j=some b:=by
  unfold yielded;rw [hj];simp only [Option.bind_some];rw [Array.getElem?_eq_getElem hs];simp only [Array.getD_eq_getD_getElem?,Array.getElem?_eq_getElem hs,Option.getD_some] at hv;rw [hv]
 unfold wpListIn at h ⊢;rw [if_pos (by simp [Region.wanted])] at h;rw [if_pos (by simp [Region.wanted,hy])];exact h
end
def WI (lp n:Nat) (P:Program) (N:Nat) (Q:Post) (c:Code) (l:Env) (w:World):Prop:=∀ a,Rep N [] l a→c.wpIn (Fence.wide.inRound lp) n P (X3 N [] Q) a w
section
variable {lp n:Nat} {P:Program} {N:Nat} {Q:Post} {l:Env} {w:World} {id i:Nat}
theorem Qit (h:Q .normal l w):WI lp n P N Q .skip l w:=fun _ ha=>wpIn_skip ⟨_,ha,h⟩
theorem Ha (h:Q (.exit i) l w):WI lp n P N Q (.exit i) l w:=fun _ ha=>wpIn_exit ⟨_,ha,h⟩
theorem Vz {x y:Code} (h:WI lp n P N (X6 (WI lp n P N Q y) Q) x l w):WI lp n P N Q (.seq x y) l w:=by
 intro a ha
 refine wpIn_seq<|wpIn_mono (h a ha) (fun e a w hq=>?_)
 obtain ⟨l',hr,hq⟩:=hq
 cases e with
 | normal=>exact hq a hr
 | _=>exact ⟨l',hr,hq⟩
theorem Qqk {x y:Code} {c:Operand} {b:Bool} (hc:ev l c=some (.bool b)) (h1:b=true→WI lp n P N Q x l w) (h0:b=false→WI lp n P N Q y l w):WI lp n P N Q (.cond c x y) l w :=
 fun a ha=>wpIn_cond_split (ha.knows _ _ hc) (fun h=>h1 h a ha) (fun h=>h0 h a ha)
theorem Qwp {x y:Code} {c:Operand} {b:Bool} (hc:ev l c=some (.bool b)) (hb:b=true) (h:WI lp n P N Q x l w):WI lp n P N Q (.cond c x y) l w :=
 Qqk hc (fun _=>h) (fun h0=>by rw [hb] at h0; cases h0)
theorem Qwr {c:Code} (h:WI lp n P N (inB id Q) c l w):WI lp n P N Q (.block id c) l w:=by
 intro a ha
 refine wpIn_block<|wpIn_mono (h a ha) (fun e a w hq=>?_)
 obtain ⟨l',hr,hq⟩:=hq
 cases e with
 | exit i =>
  replace hq:(bif Nat.beq i id then Q .normal l' w else Q (.exit i) l' w):=hq
  show (if i=id then X3 N [] Q .normal a w else X3 N [] Q (.exit i) a w)
  by_cases hi:i=id
  ·subst hi;rw [show Nat.beq i i=true from Nat.beq_refl i] at hq;rw [if_pos rfl];exact ⟨l',hr,hq⟩
  ·rw [show Nat.beq i id=false from by
    cases hb:Nat.beq i id with
    | false=>rfl
    | true=>exact absurd (Nat.eq_of_beq_eq_true hb) hi] at hq
   rw [if_neg hi];exact ⟨l',hr,hq⟩
 | _=>exact ⟨l',hr,hq⟩
theorem Qos {os:List Oper} (hn:YB os=true) (hQ:∀ l w,¬Q .outgrown l w) (h:WL P N [] os.toArray Q os l w):WI lp n P N Q (.region id os.toArray false) l w :=
 fun a ha=>wpIn_region_lit (Qwo hn hQ h a ha)
theorem WI_out {c:Code} {Q':Exit→Act→World→Prop} {a:Act} (h:WI lp n P N Q c l w) (ha:Rep N [] l a) (hq:∀ e l a w,Rep N [] l a→Q e l w→Q' e a w):c.wpIn (Fence.wide.inRound lp) n P Q' a w :=
 wpIn_mono (h a ha) fun e a w hx=>by obtain ⟨l,hr,hx⟩:=hx; exact hq e l a w hr hx
end
end
section
open Go.RowKit
def Qai (p:Pc):Value:=.agg #[.int .u8 p.kind.toNat,Qv p.body,.int .i64 p.pos,.int .i64 p.next]
def KeepB (b:Nat) (w w':World):Prop:=w'.heap[b]?=w.heap[b]?
abbrev PcS:={ p:Pc // p.body.length≤1099511627776 }
theorem Qhg {s:List UInt8} {k a:Nat} (hk:0<k) (he:(QG (s.drop a)).2.2.2=0):Kk s k a=Vj s a::Kk s (k-1) (a+(QG (s.drop a)).2.2.1):=by
 obtain ⟨m,rfl⟩:∃ m,k=m+1:=⟨k-1,by omega⟩
 rw [Kk,if_neg Qb]
 rfl
theorem Qhf {s:List UInt8} {k a:Nat} (he:(QG (s.drop a)).2.2.2≠0):Kk s k a=[]:=by
 cases k with
 | zero=>rfl
 | succ k=>rw [Kk,if_pos he]
theorem bpc (k:UInt8) (b:List UInt8) (i j:Int) (w:World):(Instr.build 200 #[(0,.int .u8 k.toNat),(1,Qv b),(2,.int .i64 i),(3,.int .i64 j)]).run Tryz.prog w=.ok (.agg #[.int .u8 k.toNat,Qv b,.int .i64 i,.int .i64 j]) w:=by kernel_rfl
theorem Qhe (n:Nat) (w:World) (gB:Nat) (s:List UInt8) (hB:Blk w gB 9 #[Qv s]) (hs:s.length≤1099511627776) :
  SeqStopsK Fence.wide n Tryz.prog 169 #[.pointer (some ⟨gB,0,none⟩)] (fun p:PcS=>#[Qai p.1]) (KeepB gB) (fun xs=>xs.map (·.1)=Uj s) (fun pre=>pre.map (·.1) <+: Uj s) (s.length+1) w:=by
 intro lp J Jx W hW hJ hJx hY h0;replace hB:Blk W gB 9 #[Qv s]:=hB.bel hW
 refine callsIn_wide.2<|Qj (args:=[.func (.yield lp) #[] #[],.pointer (some ⟨gB,0,none⟩)]) 34 Tryz.func169 Z Z Z<|Qt [(0,.func (.yield lp) #[] #[]),(1,.pointer (some ⟨gB,0,none⟩))] ?_ ⟨Z,Z,tvA⟩
 refine Qa<|sa Z Z<|Wn<|tN<|Qp<|JG (fun n' l' w'=>∃ (pre:List PcS) (a k:Nat),n'=s.length-a∧l'=([(0,.func (.yield lp) #[] #[]),(1,.pointer (some ⟨gB,0,none⟩)),(3,.int .i64 a)]:Env)∧Uj s=pre.map (·.1)++Kk s k a∧a≤s.length∧s.length+1≤a+k∧pre.length≤a∧Blk w' gB 9 #[Qv s]∧J pre w') _ ⟨_,⟨[],0,s.length+1,Z,Z,Z,by omega,by omega,by simp,hB,h0⟩,⟨Z,Z,Z,tvA⟩⟩ ?_
 clear hB h0;rintro n' l' w1 ⟨pre,a,k,rfl,rfl,hfr,ha,hk,hp,hB,hJ1⟩
 refine Qp<|Qa<|st (Qi Z hB uz9 Z Z) Z<|sm Z Z<|st (Ka (i:=a) Z Z uz9 Z ha) Z<|sc _ Tryz.func103 Z Qo Z Z (Q3 (Qly (s.drop a) _ (by rw [List.length_drop]; omega)) fun w2 hb=>?_)
 refine sm Z Z<|st (Qu Z Z) Z<|st (Qu Z Z) Z<|st (Qu Z Z) Z<|st (Qu Z Z) Z<|sa Z Z<|sa Z Z<|sa Z Z<|sa Z Z<|Wn<|tN ?_
 have hJ2:J pre w2:=hJ pre w1 w2 none hJ1 (VR hb) (fun r e=>by cases e);replace hB:=hB.bel hb;clear hb hJ1
 by_cases he:(QG (s.drop a)).2.2.2=0
 ·have hl:=KX he;rw [List.length_drop] at hl
  refine Qe<|Qe<|Qwl (n:=n)<|stI wideT3 (fun c h=>by cases h) (Qd Z) Z ?_
  refine stI wideT3 (fun c h=>by cases h) (QC Z Z) Z ?_;refine stI wideT3 (fun c h=>by cases h) (Jf Z (c:=false) (by rw [he]; rfl)) Z ?_
  refine gYI Z Z Z<|stI wideT3 (fun c h=>by cases h) (Qd Z) Z ?_
  refine gYI Z Z Z<|stI wideT3 (fun c h=>by cases h) (Qd Z) Z ?_
  refine gYI Z Z Z<|stI wideT3 (fun c h=>by cases h) (Qd Z) Z ?_
  refine gYI Z Z Z<|stI wideT3 (fun c h=>by cases h) (Qd Z) Z ?_
  refine gYI Z Z Z<|stI wideT3 (fun c h=>by cases h) (Qd Z) Z ?_
  refine gYI Z Z Z<|stI wideT3 (fun c h=>by cases h) (Qd Z) Z ?_
  refine gYI Z Z Z<|stI wideT3 (fun c h=>by cases h) (Qn Z Z Qb) Z ?_
  refine gYI Z Z Z<|stI wideT3 (fun c h=>by cases h) (Ja Z (bpc _ _ _ _ _)) Z ?_
  refine gYI Z Z Z ?_
  have hbd:(Vj s a).body.length≤1099511627776:=by
   have:=UV (s.drop a)
   rw [List.length_drop] at this
   show (QG (s.drop a)).2.1.length≤_
   omega
  refine Qtv [Qai (Vj s a)] wideT3 Z Z Z Z ?_;have hstep:=Qhg (k:=k) Qb he;obtain ⟨fn,tmps,assign,body,hy,hR⟩:=hY pre ⟨Vj s a,hbd⟩ w2 hJ2 Qb;refine ⟨fn,tmps,assign,body,hy,RoundIn.mono hR (fun e w5 h=>?_)⟩
  rcases h with ⟨rfl,hJ5,hk5⟩|⟨rfl,hJx5⟩
  ·refine gYI Z Z Z<|stI wideT3 (fun c h=>by cases h) (Jk Z) Z ?_
   refine stI wideT3 (fun c h=>by cases h) (Qq Z Z) Z ?_
   refine WIn<|tN<|QX Z Z<|Qf<|tN<|Qw<|sm Z Z<|sm Z Z<|st (Qn Z Z Qb) Z<|sa Z Z<|Wn<|bN<|tN ⟨_,_,?_,⟨pre++[⟨Vj s a,hbd⟩],a+(QG (s.drop a)).2.2.1,k-1,Z,Z,?_,by omega,by omega,by simp; omega,?_,hJ5⟩,⟨Z,Z,Z,tvA⟩⟩
   ·omega
   ·rw [hfr,hstep,List.map_append,List.append_assoc]; rfl
   ·exact hk5.trans hB
  ·refine gYI Z Z Z<|stI wideT3 (fun c h=>by cases h) (Jk Z) Z ?_
   refine stI wideT3 (fun c h=>by cases h) (Qq Z Z) Z ?_
   refine WIn<|tN<|QO Z Z<|Qg<|tR<|bR<|tR<|bR ?_
   exact (r0 Z ⟨⟨_,Z⟩,.inr ⟨_,⟨Kk s (k-1) (a+(QG (s.drop a)).2.2.1),by rw [hfr,hstep,List.map_append,List.append_assoc]; rfl⟩,hJx5⟩⟩).1
 ·refine Qe<|Qe<|Qw<|sm Z Z<|st (QC Z Z) Z<|UP Z (decide_eq_true he) Z<|gN Z Z Z Z<|gN Z Z Z Z<|gN Z Z Z Z<|gN Z Z Z Z<|gN Z Z Z Z<|gN Z Z Z Z<|gN Z Z Z Z<|gN Z Z Z Z<|gN Z Z Z Z<|gN Z Z Z Z<|st (Qm Z Z) Z<|Wn<|tN<|QO Z Z<|Qg<|tR<|bR<|tR<|bR ?_
  rw [Qhf he,List.append_nil] at hfr;exact (r0 Z ⟨⟨_,Z⟩,.inl ⟨pre,hfr.symm,hJ2⟩⟩).1
end
section
open Go.RowKit Sha
def Xc (l:List Ent):List (List UInt8×Int):=l.zipIdx.map fun p=>(p.1.sum,(p.2:Int))
theorem Qno (l:List Ent) (e:Ent):Xc (l++[e])=Xc l++[(e.sum,(l.length:Int))]:=by
 simp [Xc,List.zipIdx_append]
structure ScnAt (w:World) (gx gm:Nat) (v:Value) (x:Scn):Prop where
  blk:Blk w gx 79 #[v,.map (some gm),.int .i64 x.good,.bool x.whole]
  row:Row w 59 35 v x.l.length (x.l.flatMap Ent.cells)
  map:∃ m:List (Sum32×Int),MapAt w gm Y2 Qod m∧m.map (fun p=>(p.1.1,p.2))=Xc x.l
  s32:Yt x.l
theorem ScnAt.bel {w w':World} {gx gm:Nat} {v:Value} {x:Scn} (h:ScnAt w gx gm v x) (hb:Below w.heap.size w w'):ScnAt w' gx gm v x :=
 ⟨h.blk.bel hb,h.row.bel hb,by obtain ⟨m,h1,h2⟩:=h.map; exact ⟨m,h1.bel hb,h2⟩,h.s32⟩
theorem VQ {m:List (Sum32×Int)} {l:List Ent} (h:m.map (fun p=>(p.1.1,p.2))=Xc l) (k:Sum32):k∈m.map (·.1)↔Xy l k.1=true:=by
 have e1:(m.map (fun p=>(p.1.1,p.2))).map (·.1)=(m.map (·.1)).map (·.1):=by simp [List.map_map,Function.comp_def]
 have e2:(Xc l).map (·.1)=l.map (·.sum):=by
  unfold Xc;rw [List.map_map]
  have:((fun x=>x.1) ∘ fun p:Ent×Nat=>(p.1.sum,(p.2:Int)))=(fun e:Ent=>e.sum) ∘ Prod.fst:=rfl
  rw [this,← List.map_map,List.zipIdx_map_fst]
 rw [h,e2] at e1;unfold Xy;rw [List.any_eq_true]
 constructor
 ·intro hk
  have:k.1∈(m.map (·.1)).map (·.1):=List.mem_map.2 ⟨k,hk,rfl⟩
  rw [← e1] at this;obtain ⟨e,he,hes⟩:=List.mem_map.1 this;exact ⟨e,he,by simpa using hes⟩
 ·rintro ⟨e,he,hes⟩
  have:k.1∈l.map (·.sum):=List.mem_map.2 ⟨e,he,by simpa using hes⟩
  rw [e1] at this;obtain ⟨q,hq,hqe⟩:=List.mem_map.1 this;exact (Subtype.ext hqe:q=k)▸hq
theorem bent (a:List UInt8) (n i j:Int) (ha:a.length=32) (w:World):(Instr.build 59 #[(0,.agg (a.map bv).toArray),(1,.int .i64 n),(2,.int .i64 i),(3,.int .i64 j)]).run Tryz.prog w=.ok (.agg (Ent.mk a n i j).cells.toArray) w:=by
 match a,ha with
 | [a0,a1,a2,a3,a4,a5,a6,a7,a8,a9,b0,b1,b2,b3,b4,b5,b6,b7,b8,b9,c0,c1,c2,c3,c4,c5,c6,c7,c8,c9,d0,d1],_=>show _=_; kernel_rfl
theorem Blk.neM {κ ν:Type} [DecidableEq κ] {enc:κ→Value} {encv:ν→Value} {w:World} {g b:Nat} {t:TypeId} {cs:Array Value} {m:List (κ×ν)} (hB:Blk w g t cs) (hM:MapAt w b enc encv m):g≠b:=by
 rintro rfl;obtain ⟨ts,clock,_,_,_,h4⟩:=hM.obj;have h:w.heap[g]?=some (.cells cs t):=hB;rw [h4] at h
 cases h
theorem Row.neM {κ ν:Type} [DecidableEq κ] {enc:κ→Value} {encv:ν→Value} {w:World} {b n size:Nat} {e:TypeId} {v:Value} {xs:List Value} {m:List (κ×ν)} (hR:Row w e size v n xs) (hM:MapAt w b enc encv m):∀ k,v.ownBlock=some k→k≠b:=fun k hk=>by
 rintro rfl;obtain ⟨ts,clock,_,_,_,h4⟩:=hM.obj
 have:=hR.onCells k _ hk h4
 cases this
theorem Qib (e:Ent):e.cells.toArray.toList.all (·.oneCell')=true:=by
 simp [Ent.cells,bv,Value.oneCell']
theorem X7 {w:World} {e:TypeId} {size n:Nat} {v:Value} {xs:List Value} (h:Row w e size v n xs):∀ k,v.ownBlock=some k→k<w.heap.size:=fun k hk=>by
 rcases h.2 with ⟨rfl,_⟩|⟨g,off,cap,cur,fz,rfl,hg,_⟩
 ·simp [Value.ownBlock] at hk
 ·simp [Value.ownBlock] at hk;subst hk;exact (Array.getElem?_eq_some_iff.1 hg).1
def AddPost (w:World) (gx gm:Nat) (v:Value) (x:Scn) (E:Ent) (e:Ending) (w':World):Prop :=
  ∃ v',e=.returned (.agg E.cells.toArray)∧ScnAt w' gx gm v' { x with l:=x.l++[E] }∧(∀ k,v'.ownBlock=some k→v.ownBlock=some k∨w.heap.size≤k)∧Chg (fun k=>k=gx∨k=gm∨v.ownBlock=some k) w w'
theorem Qqc (gx gm:Nat) (v:Value) (x:Scn) (n pos:Int) (a d:List UInt8) (w:World) (h:ScnAt w gx gm v x) (ha:a.length=32) (hn:Xy x.l a=false) (hl:x.l.length≤20000000) :
  Calls Tryz.prog 32 #[.pointer (some ⟨gx,0,none⟩),.int .i64 n,.int .i64 pos,.agg (a.map bv).toArray,Qv d] w (AddPost w gx gm v x ⟨a,n,pos,d.length⟩):=by
 have hB:Blk w gx 79 #[v,.map (some gm),.int .i64 x.good,.bool x.whole]:=h.blk;have hR:=h.row;obtain ⟨m,hM,hm⟩:=h.map;have hgm:=hB.neM hM;have hlt:=hB.lt;have hlm:=hM.lt;have hrm:=hR.neM hM;have hvl:=X7 hR;obtain ⟨q,cq,rfl,hq1,hq2⟩:=hR.shape
 refine Qj (args:=[.pointer (some ⟨gx,0,none⟩),.int .i64 n,.int .i64 pos,.agg (a.map bv).toArray,Qv d]) 39 Tryz.func32 Z Z Z<|Qt [(0,.pointer (some ⟨gx,0,none⟩)),(1,.int .i64 n),(2,.int .i64 pos),(3,.agg (a.map bv).toArray),(4,Qv d)] ?_ ⟨Z,Z,Z,Z,Z,tvA⟩
 have hcw:=Chg.refl (fun k=>k=gx∨k=gm∨(Value.slice q x.l.length cq).ownBlock=some k) w
 refine Qa<|J1 Z Z (fun g8 w1 hB8 hg8 hb hl8=>?_)
 replace hcw:=hcw.then_below hb;replace hB:=hB.bel hb;replace hR:=hR.bel hb;replace hM:=hM.bel hb;have zz1:=hb.size;clear hb;refine Jm inf59 Z (fun g10 w2 hB10 hg10 hb hl10=>?_);replace hcw:=hcw.then_below hb;replace hB:=hB.bel hb;replace hR:=hR.bel hb;replace hM:=hM.bel hb;replace hB8:=hB8.bel hb;have zz2:=hb.size;clear hb
 refine Wn<|tN<|Qa<|st (QE Z hB8 uz57 Z (by rw [Jn ha]; exact siz57)) Z ?_
 refine sm Z Z<|sm Z Z<|sm Z Z<|st (QP Z Z uz9) Z<|st (Ja Z (bent a n pos d.length ha _)) Z<|Jm inf59 Z (fun g11 w3 hB11 hg11 hb hl11=>?_)
 replace hcw:=hcw.then_below hb;replace hB:=hB.bel hb;replace hR:=hR.bel hb;replace hM:=hM.bel hb;replace hB8:=hB8.bel hb;replace hB10:=hB10.bel hb;have zz3:=hb.size;clear hb;refine QY Z Z hB11 (by rw [Ent.size (e:=⟨a,n,pos,d.length⟩) ha]; exact siz59) (by rw [Ent.size (e:=⟨a,n,pos,d.length⟩) ha]; rfl) (Qib _) (fun w4 bB cC=>?_);replace hB11:=bB;replace hB:=hB.chg cC (by show ¬gx=g11; omega);replace hR:=hR.chg cC (fun k hk e=>by have:=hvl k hk; omega);replace hM:=hM.chg cC (by show ¬gm=g11; omega);replace hB8:=hB8.chg cC (by show ¬g8=g11; omega);replace hB10:=hB10.chg cC (by show ¬g10=g11; omega);replace hcw:=hcw.next cC (fun i hi=>.inr Qb);have zz4:=cC.size;clear bB cC
 refine Wn<|tN<|UJ 10 Qo Qo ?_
 obtain ⟨w5,hw_,hb⟩:=QN w4;rw [← hw_];clear hw_;replace hcw:=hcw.then_below hb;replace hB:=hB.bel hb;replace hR:=hR.bel hb;replace hM:=hM.bel hb;replace hB8:=hB8.bel hb;replace hB10:=hB10.bel hb;replace hB11:=hB11.bel hb;have zz5:=hb.size;clear hb
 refine hY (Qd Z) Z<|hY (Qc Z) Z<|hY (Qk Qhn Z) Z<|hY (Qi Z hB uz76 Z Z) Z<|hY (QE Z hB8 uz57 Z (by rw [Jn ha]; exact siz57)) Z ?_
 refine hY (Qd Z) Z<|hY (Qc Z) Z<|hY (Qk XB Z) Z<|hY (Qi Z hB uz77 Z Z) Z<|hY (QT Z Z uz77) Z<|hN<|smu keySum Z ⟨a,ha⟩ (x.l.length:Int) Z Z uz76 hM (fun w6 hM_ cC=>?_)
 replace hB:=hB.chg cC hgm;replace hR:=hR.chg cC (fun k hk e=>hrm k hk e);replace hB8:=hB8.chg cC (by show ¬g8=gm; omega);replace hB10:=hB10.chg cC (by show ¬g10=gm; omega);replace hB11:=hB11.chg cC (by show ¬g11=gm; omega);replace hcw:=hcw.next cC (fun i hi=>.inl (.inr (.inl hi)));replace hM:=hM_;have zz6:=cC.size;clear hM_ cC
 refine Wn<|tN ?_
 have hB0:=hB;have hB110:=hB11;refine H5 (fun G=>Below w6.heap.size w6 G) 7 [true,true,true,true,true,true,false] Qo Qo (JC X4) ?_;obtain ⟨w7,hw_,hb⟩:=QN w6;rw [← hw_];clear hw_;have hS:=hb;replace hcw:=hcw.then_below hb;replace hB:=hB.bel hb;replace hR:=hR.bel hb;replace hM:=hM.bel hb;replace hB8:=hB8.bel hb;replace hB10:=hB10.bel hb;replace hB11:=hB11.bel hb;have zz7:=hb.size;clear hb
 refine pY (fun G U=>(Qd Z)) Z<|pY (fun G U=>(Qd Z)) Z<|pY (fun G U=>(Qc Z)) Z<|pY (fun G U=>(Qk XB Z)) Z<|pY (fun G U=>(Qi Z (hB0.bel U) uz77 Z Z)) Z<|pY (fun G U=>(QE Z (hB110.bel U) uz59 Z (by rw [Ent.size (e:=⟨a,n,pos,d.length⟩) ha]; exact siz59))) Z ?_
 refine pL (fun Q_ hQ_ hP_=>(Zy Z uz77 inf59 (Ent.size (e:=⟨a,n,pos,d.length⟩) ha) Z QF QF Z (fun g34 w8 hR34 hg34 hb=>?_)));replace hS:=Ql hS hb;replace hcw:=hcw.then_below hb;replace hB:=hB.bel hb;replace hR:=hR.bel hb;replace hM:=hM.bel hb;replace hB10:=hB10.bel hb;replace hB11:=hB11.bel hb;have zz8:=hb.size;clear hb;have hl34:=hR34.blt QF
 refine Wn<|hQ_ _ _ hS ?_
 clear hQ_ hP_ Q_
 refine pN<|Z4 Z Z uz77 inf59 Z QF hR (hR34.src uz77 (by intro u hu; have:=List.all_eq_true.1 (Qib ⟨a,n,pos,d.length⟩) u (by simpa [Value.cells] using hu); exact this)) (by simp only [maxLen]; omega) Qb Z (fun v' w9 hR2 hC2 hv=>?_)
 obtain ⟨a',c',rfl,_,_⟩:=hR2.shape;have zz9:=hC2.size;have hlt9:=hB.lt;have hne1:=hR.ne2 hB QF;replace hB:=hB.chg hC2 (fun hk=>hne1 _ hk rfl);replace hM:=hM.chg hC2 (fun hk=>hR.neM hM _ hk rfl);have hne:=hR2.ne2 hB QF;replace hB10:=hB10.chg hC2 (fun hk=>by have:=hvl _ hk; omega);replace hB11:=hB11.chg hC2 (fun hk=>by have:=hvl _ hk; omega);replace hcw:=hcw.next hC2 (fun i hi=>.inl (.inr (.inr hi)))
 have hvn:∀ k,(Value.slice a' (x.l.length+1) c').ownBlock=some k→(Value.slice q x.l.length cq).ownBlock=some k∨w.heap.size≤k:=fun k hk=>by
  rcases hv with hv|hv
  ·exact .inl (hv▸hk)
  ·rw [hv] at hk;injection hk with hk
   right; omega
 have hrm2:=hR2.neM hM
 have hn10:¬(Value.slice a' (x.l.length+1) c').ownBlock=some g10:=fun hk=>by
  rcases hv with hv|hv
  ·rw [hv] at hk; have:=hvl _ hk; omega
  ·rw [hv] at hk; injection hk with hk; omega
 replace hR:=hR2;clear hC2 hR2 hB8
 refine st (Qc Z) Z<|st (Qk XB Z) Z<|KL Z Z hB siz77 hR.one Q0 (fun w10 bB cC=>?_)
 replace hB:=bB;replace hR:=hR.chg cC (fun k hk e=>hne _ hk e);replace hM:=hM.chg cC (by show ¬gm=gx; omega);replace hB10:=hB10.chg cC (by show ¬g10=gx; omega);replace hB11:=hB11.chg cC (by show ¬g11=gx; omega);replace hcw:=hcw.next cC (fun i hi=>.inl (.inl hi));have zz10:=cC.size;clear bB cC
 refine Wn<|nN<|Qa<|st (QE Z hB11 uz59 Z (by rw [Ent.size (e:=⟨a,n,pos,d.length⟩) ha]; exact siz59)) Z ?_
 refine QY Z Z hB10 (by rw [Ent.size (e:=⟨a,n,pos,d.length⟩) ha]; exact siz59) (by rw [Ent.size (e:=⟨a,n,pos,d.length⟩) ha]; rfl) (Qib _) (fun w11 bB cC=>?_);replace hB10:=bB;replace hB:=hB.chg cC (by show ¬gx=g10; omega);replace hR:=hR.chg cC (fun k hk e=>by have h1:=hvn k hk; have h2:=X7 hR k hk; rcases h1 with h1|h1; have:=hvl k h1; omega; exact hn10 (e▸hk));replace hM:=hM.chg cC (by show ¬gm=g10; omega);replace hcw:=hcw.next cC (fun i hi=>.inr Qb);clear bB cC
 refine Wn<|tN<|Qg<|(rC Z Z hB10 uz59 Z (by rw [Ent.size (e:=⟨a,n,pos,d.length⟩) ha]; exact siz59) ⟨_,Z,⟨hB,?_,⟨_,hM,?_⟩,?_⟩,hvn,hcw⟩).1
 ·rw [List.length_append,List.flatMap_append,List.flatMap_singleton];exact hR
 ·rw [VK _ _ _ (by rw [List.findIdx?_eq_none_iff]; intro p hp; rw [decide_eq_false_iff_not]; intro e; have:=(VQ hm ⟨a,ha⟩).1 (e▸List.mem_map.2 ⟨p,hp,rfl⟩); rw [hn] at this; cases this),List.map_append,hm,Qno]
  rfl
 ·intro e he
  rcases List.mem_append.1 he with he|he
  ·exact h.s32 e he
  ·rw [List.mem_singleton.1 he]; exact ha
end
section
open Go.RowKit
theorem EntsAt.chgI {w w':World} {v:Value} {l:List Ent} {k n0 c0:Nat} {t:TypeId} {a0:Option Addr} (h:EntsAt w v l) (h32:Yt l) (hB:Blk w k t #[.slice a0 n0 c0]) (hc:Chg (fun q=>q=k) w w'):EntsAt w' v l:=by
 obtain ⟨h1,a,cap,rfl,h3,h4,h5⟩:=h;refine ⟨h1,a,cap,Z,h3,h4,fun h0=>?_⟩;obtain ⟨g,off,rfl,hg,hcl⟩:=h5 h0
 have hne:g≠k:=by
  rintro rfl
  obtain ⟨x,hx⟩:∃ x,l[0]?=some x:=⟨_,List.getElem?_eq_getElem h0⟩
  have hxs:=h32 x (List.mem_of_getElem? hx)
  have hf:(l.flatMap Ent.cells)[0]?=some (bv (x.sum.headD 0)):=by
   cases l with
   | nil=>simp at hx
   | cons y l =>
    simp at hx;subst hx;rw [List.flatMap_cons]
    cases hs:y.sum with
    | nil=>simp [hs] at hxs
    | cons b s=>simp [Ent.cells,hs]
  have:=hcl 0 _ hf
  rw [hB.cell] at this
  match off with
  | 0=>simp [bv] at this
  | q+1=>simp at this
 have:=hc.size
 exact ⟨g,off,Z,by omega,fun j u hu=>(hc.cell (p:=⟨g,off+j,none⟩) hg hne).trans (hcl j u hu)⟩
end
section
open Go.RowKit Sha
theorem HY (gx gm:Nat) (v:Value) (x:Scn) (w:World) (h:ScnAt w gx gm v x) (hl:x.l.length≤1000000) :
  Calls Tryz.prog 90 #[.pointer (some ⟨gx,0,none⟩)] w fun e w'=>∃ u,e=.returned (.agg #[u])∧EntsAt w' u (Jb x.l).1∧(∀ k,u.ownBlock=some k→w.heap.size≤k)∧Below w.heap.size w w':=by
 have hB:Blk w gx 79 #[v,.map (some gm),.int .i64 x.good,.bool x.whole]:=h.blk;have hR:=h.row.reads
 refine Qj (args:=[.pointer (some ⟨gx,0,none⟩)]) 14 Tryz.func90 Z Z Z<|Qt [(0,.pointer (some ⟨gx,0,none⟩))] ?_ ⟨Z,tvA⟩
 have bw:=Below.refl w.heap.size w
 refine Qa<|Jm inf101 Z (fun g2 w1 hB2 hg2 hb hl2=>?_)
 replace bw:=Ql bw hb;replace hB:=hB.bel hb;replace hR:=hR.bel hb;have zz1:=hb.size;clear hb
 refine Wn<|tN<|Qa<|sm Z Z<|st (Qc Z) Z<|st (Qk XB Z) Z<|st (Qi Z hB uz77 Z Z) Z<|sc _ Tryz.func131 Z Qo Z Z<|(Qxi v x.l _ hR h.s32 hl).mono ?_
 rintro e_ w2 ⟨u,rfl,hE,hO,hb⟩;refine cR ?_;replace bw:=Ql bw hb;replace hB:=hB.bel hb;replace hR:=hR.bel hb;replace hB2:=hB2.bel hb;have zz2:=hb.size;clear hb
 obtain ⟨am,cm,rfl⟩:∃ am cm,u=.slice am (Jb x.l).1.length cm:=by obtain ⟨_,am,cm,e,_⟩:=hE; exact ⟨am,cm,e⟩
 refine sm Z Z<|st (Qu Z Z) Z<|st (Qu Z Z) Z<|Jm inf101 Z (fun g3 w3 hB3 hg3 hb hl3=>?_)
 replace bw:=Ql bw hb;replace hB:=hB.bel hb;replace hR:=hR.bel hb;replace hB2:=hB2.bel hb;replace hE:=hE.bel hb;have zz3:=hb.size;clear hb;refine QY Z Z hB3 siz101 Z (by simp [Value.oneCell']) (fun w4 bB cC=>?_);replace hE:=EntsAt.chgI hE (Q5 h.s32) hB3 cC;replace hB2:=hB2.chg cC (by show ¬g2=g3; omega);replace bw:=Ji bw cC Qb;replace hB3:=bB;clear bB cC hB hR
 refine sa Z Z<|Wn<|tN<|Qa<|st (QE Z hB3 uz101 Z siz101) Z<|QY Z Z hB2 siz101 Z (by simp [Value.oneCell']) (fun w5 bB cC=>?_)
 replace hE:=EntsAt.chgI hE (Q5 h.s32) hB2 cC;replace bw:=Ji bw cC Qb;replace hB2:=bB;clear bB cC
 refine Wn<|tN<|Qg ?_
 exact (rC Z Z hB2 uz101 Z siz101 ⟨_,Z,hE,fun k hk=>by have:=hO k hk; omega,bw⟩).1
end
section
open Go.RowKit Sha
theorem ScnAt.chg {w w':World} {gx gm:Nat} {v:Value} {x:Scn} {S:Nat→Prop} (h:ScnAt w gx gm v x) (hc:Chg S w w') (h1:¬S gx) (h2:¬S gm) (h3:∀ k,v.ownBlock=some k→¬S k):ScnAt w' gx gm v x :=
 ⟨h.blk.chg hc h1,h.row.chg hc h3,by obtain ⟨m,a,b⟩:=h.map; exact ⟨m,a.chg hc h2,b⟩,h.s32⟩
def Y9 (w:World) (gx gm:Nat) (v:Value) (x:Scn) (r:Option Scn) (e:Ending) (w':World):Prop :=
  ∃ v',e=.returned (.bool r.isSome)∧ScnAt w' gx gm v' (r.getD x)∧(∀ k,v'.ownBlock=some k→v.ownBlock=some k∨w.heap.size≤k)∧Chg (fun k=>k=gx∨k=gm∨v.ownBlock=some k) w w'
theorem Qrl (gx gm:Nat) (v:Value) (x:Scn) (p:Pc) (n:Int) (w:World) (h:ScnAt w gx gm v x) (hT:ShaTabs w) (hN:Qgd (fun k=>k=gx∨k=gm∨v.ownBlock=some k)) (hl:x.l.length≤20000000) (hp:p.body.length≤1099511627776) :
  Calls Tryz.prog 137 #[.pointer (some ⟨gx,0,none⟩),Qai p,.int .i64 n] w (Y9 w gx gm v x (ZA n x p)):=by
 have hB:Blk w gx 79 #[v,.map (some gm),.int .i64 x.good,.bool x.whole]:=h.blk;obtain ⟨m,hM,hm⟩:=h.map;have hgm:=hB.neM hM;have hlt:=hB.lt;have hlm:=hM.lt;have hvl:=X7 h.row;obtain ⟨q,cq,rfl,hq1,hq2⟩:=h.row.shape;have hR:=h.row;have hrx:=hR.ne2 hB QF;have h32:=h.s32;clear h
 refine Qj (args:=[.pointer (some ⟨gx,0,none⟩),.agg #[.int .u8 p.kind.toNat,Qv p.body,.int .i64 p.pos,.int .i64 p.next],.int .i64 n]) 63 Tryz.func137 Z Z Z<|Qt [(0,.pointer (some ⟨gx,0,none⟩)),(1,.agg #[.int .u8 p.kind.toNat,Qv p.body,.int .i64 p.pos,.int .i64 p.next]),(2,.int .i64 n)] ?_ ⟨Z,Z,Z,tvA⟩
 have hcw:=Chg.refl (fun k=>k=gx∨k=gm∨(Value.slice q x.l.length cq).ownBlock=some k) w
 refine Qa<|J1 Z Z (fun g4 w1 hB4 hg4 hb hl4=>?_)
 replace hcw:=hcw.then_below hb;replace hB:=hB.bel hb;replace hM:=hM.bel hb;replace hR:=hR.bel hb;have zz1:=hb.size;clear hb
 refine sa Z Z<|Wn<|tN<|Qe<|Qa<|st (Qk Qhv Z) Z<|st (Qi Z hB4 uz5 Z Z) Z<|Wn<|tN<|Qp<|Qa<|st (QL Z Z) Z<|sa Z Z<|Wn<|tN<|Qx Z (fun h14=>?_) (fun h14=>?_)
 ·replace h14:=Qs h14
  refine Qa<|st (Qk Qhu Z) Z<|st (Qi Z hB4 uz9 Z Z) Z<|sc _ Tryz.func104 Z Qo Z Z<|(Qcl p.body _ (hT.chg hcw hN) hp).mono ?_
  rintro e_ w2 ⟨a,d,ok,rfl,ha,hok,hal,hb⟩;refine cR ?_;replace hcw:=hcw.then_below hb;replace hB:=hB.bel hb;replace hM:=hM.bel hb;replace hR:=hR.bel hb;replace hB4:=hB4.bel hb;have zz2:=hb.size;clear hb
  refine sm Z Z<|st (Qu Z Z) Z<|st (Qu Z Z) Z<|st (Qu Z Z) Z<|Jm inf57 Z (fun g7 w3 hB7 hg7 hb hl7=>?_)
  replace hcw:=hcw.then_below hb;replace hB:=hB.bel hb;replace hM:=hM.bel hb;replace hR:=hR.bel hb;replace hB4:=hB4.bel hb;have zz3:=hb.size;clear hb;refine QY Z Z hB7 (by rw [Jn ha]; exact siz57) (by rw [Jn ha]; rfl) (Vf _) (fun w4 bB cC=>?_);replace hB7:=bB;replace hB:=hB.chg cC (by show ¬gx=g7; omega);replace hM:=hM.chg cC (by show ¬gm=g7; omega);replace hB4:=hB4.chg cC (by show ¬g4=g7; omega);replace hR:=hR.chg cC (fun k hk e=>by have:=hvl k hk; omega);replace hcw:=hcw.next cC (fun i hi=>.inr Qb);have zz4:=cC.size;clear bB cC
  refine sa Z Z<|sa Z Z<|Wn<|tN<|Qe<|QS (fun G=>Blk G gx 79 #[.slice q x.l.length cq,.map (some gm),.int .i64 x.good,.bool x.whole]∧Blk G g7 57 (a.map bv).toArray) [0,1,2,3,4,5,6,7,8,9,10] [Y,Y,Y,Y,Y,false,Y,Y,Y,Y,Y] Qo Qo (⟨hB.drew,hB7.drew⟩) ?_
  obtain ⟨w5,hw_,hb⟩:=QN w4;rw [← hw_];clear hw_;have hS:=hb;replace hcw:=hcw.then_below hb;replace hB:=hB.bel hb;replace hM:=hM.bel hb;replace hR:=hR.bel hb;replace hB4:=hB4.bel hb;replace hB7:=hB7.bel hb;have zz5:=hb.size;clear hb
  refine oY Z (fun G U=>(Qd Z)) Z<|oY Z (fun G U=>(Qc Z)) Z<|oY Z (fun G U=>(Qk Qhn Z)) Z<|oY Z (fun G U=>(Qi Z U.1 uz76 Z Z)) Z<|oY Z (fun G U=>(QE Z U.2 uz57 Z (by rw [Jn ha]; exact siz57))) Z ?_
  refine oL Z (fun Q_ hQ_ hP_=>(st (Qdz (z:=.int .i64 0) keySum Z ⟨a,ha⟩ Z uz76 Qo hM) Z (Wn (hQ_ _ _ (⟨hB,hB7⟩) ?_))));clear hQ_ hP_ Q_
  refine oY Z (fun G U=>(Qd Z)) Z<|oY Z (fun G U=>(Qu Z Z)) Z<|oY Z (fun G U=>(Qu Z Z)) Z<|oY Z (fun G U=>(Qy Z)) Z<|oY Z (fun G U=>(Qy Z)) Z<|oN<|nN<|Qa<|sm Z Z<|st (Jk Z) Z<|sb Z Z (fun h34=>?_) (fun h34=>?_)
  ·replace h34:=Qs h34
   refine gN Z Z Z Z<|st (Qm Z Z) Z<|Wn<|tN<|QO Z (Z)<|Qa<|sa Z Z<|Wn<|tN<|Qg<|tR<|bR<|tR ?_
   have hk:p.kind=2:=by apply UInt8.toNat.inj; show p.kind.toNat=2; omega
   have hno:ZA n x p=none:=by unfold ZA; rw [if_pos hk,if_neg (by rw [← hok]; cases ok <;> simp_all)]
   refine (rT Z Z (R:=Y9 w gx gm _ x (ZA n x p)) ?_).1;rw [hno];exact ⟨_,Z,⟨hB,hR,⟨m,hM,hm⟩,h32⟩,fun k hk=>.inl hk,hcw⟩
  ·replace h34:=Qs h34
   refine gY Z Z Z<|sm Z Z<|st (Qq Z Z) Z<|Wn<|tN<|Qx Z (fun h36=>?_) (fun h36=>?_)
   ·replace h36:=Qs h36
    refine Qa<|sa Z Z<|Wn<|tN<|Qg<|tR<|bR<|tR ?_
    have hk:p.kind=2:=by apply UInt8.toNat.inj; show p.kind.toNat=2; omega
    have hh:Xy x.l a=true:=(VQ hm ⟨a,ha⟩).1 (Classical.byContradiction fun hc=>by have:=JZ.2 hc; rw [this] at h36; simp at h36)
    have hno:ZA n x p=none:=by unfold ZA; rw [if_pos hk,if_neg (by rintro ⟨h1,h2⟩; rw [← hok] at h1; obtain ⟨e1,e2⟩:=hal h1; rw [← e1,hh] at h2; cases h2)]
    refine (rT Z Z (R:=Y9 w gx gm _ x (ZA n x p)) ?_).1;rw [hno];exact ⟨_,Z,⟨hB,hR,⟨m,hM,hm⟩,h32⟩,fun k hk=>.inl hk,hcw⟩
   ·replace h36:=Qs h36
    refine Qf<|tN<|Qw<|sm Z Z<|sm Z Z<|st (Qk Qpy Z) Z<|st (Qi Z hB4 uz3 Z Z) Z<|st (QE Z hB7 uz57 Z (by rw [Jn ha]; exact siz57)) Z ?_
    refine sm Z Z<|sc _ Tryz.func32 Z Qo Z Z<|(Qqc gx gm _ x n p.pos a d _ ⟨hB,hR,⟨m,hM,hm⟩,h32⟩ ha (Bool.eq_false_iff.2 fun hh=>by have h3:=(VQ hm ⟨a,ha⟩).2 hh; have h4:mget m (⟨a,ha⟩:Sum32)≠none:=fun e=>JZ.1 e h3; cases hg:mget m (⟨a,ha⟩:Sum32) with|none=>exact h4 hg|some z=>rw [hg] at h36; simp at h36) hl).mono ?_
    rintro e_ w6 ⟨v1,rfl,h1,hv1,hC1⟩;refine cR ?_;replace hB:Blk _ gx 79 #[v1,.map (some gm),.int .i64 x.good,.bool x.whole]:=h1.blk;replace hB4:=hB4.chg hC1 (by rintro (e|e|e); omega; omega; have:=hvl _ e; omega);replace hcw:=hcw.next hC1 (fun i hi=>.inl hi);have hz_9:=hC1.size;replace hR:=h1.row;obtain ⟨m2,hM2,hm2⟩:=h1.map;replace hM:=hM2;have h322:=h1.s32;have hrx2:=hR.ne2 hB QF;clear h1 hB7 hC1 hM2
    refine Wn<|bN<|tN<|Qa<|sm Z Z<|st (Qk Qht Z) Z<|st (Qi Z hB4 uz3 Z Z) Z<|st (Qc Z) Z<|st (Qk H3 Z) Z<|KL Z Z hB siz3 Z (by first|decide|simp) (fun w7 bB cC=>?_)
    replace hB:=bB;clear bB;replace hM:=hM.chg cC Z5;replace hR:=hR.chg cC Z5;replace hB4:=hB4.chg cC Z5;replace hcw:=hcw.next cC KO;have zz7:=cC.size;clear cC
    refine Wn<|tN<|Qa<|sa Z Z<|Wn<|tN<|Qg ?_
    have hk:p.kind=2:=by apply UInt8.toNat.inj; show p.kind.toNat=2; omega
    have ho:ok=true:=by cases ok <;> simp_all
    obtain ⟨e1,e2⟩:=hal ho;have h33:Ke p.body=true:=hok▸ho
    have hl33:33≤p.body.length:=by unfold Ke at h33; simp only [decide_eq_true_eq] at h33; exact h33.1
    have hh:Xy x.l a=false:=(Bool.eq_false_iff.2 fun hh=>by have h3:=(VQ hm ⟨a,ha⟩).2 hh; have h4:mget m (⟨a,ha⟩:Sum32)≠none:=fun e=>JZ.1 e h3; cases hg:mget m (⟨a,ha⟩:Sum32) with|none=>exact h4 hg|some z=>rw [hg] at h36; simp at h36)
    have hE:(⟨a,n,p.pos,d.length⟩:Ent)=⟨p.body.take 32,n,p.pos,p.body.length-32⟩:=by rw [e1,e2,List.length_drop]; congr 1; omega
    have hso:ZA n x p=some ⟨x.l++[⟨a,n,p.pos,d.length⟩],p.next,x.whole⟩:=by unfold ZA; rw [if_pos hk,if_pos ⟨h33,by rw [← e1]; exact hh⟩,hE]
    refine (rT Z Z (R:=Y9 w gx gm _ x (ZA n x p)) ?_).1;rw [hso];exact ⟨_,Z,⟨hB,hR,⟨m2,hM,hm2⟩,h322⟩,fun k hk=>(hv1 k hk).imp id (fun h=>by omega),hcw⟩
 ·replace h14:=Qs h14
  refine Qa<|st (QL Z Z) Z<|sa Z Z<|Wn<|tN<|Qx Z (fun h44=>?_) (fun h44=>?_)
  ·replace h44:=Qs h44
   refine Qe<|QS (fun G=>Blk G g4 200 #[.int .u8 p.kind.toNat,Qv p.body,.int .i64 p.pos,.int .i64 p.next]∧Blk G gx 79 #[.slice q x.l.length cq,.map (some gm),.int .i64 x.good,.bool x.whole]) [0,1,2,3,4,5,6,7,8] [Y,Y,Y,Y,Y,Y,Y,false,Y] Qo Qo (⟨hB4.drew,hB.drew⟩) ?_
   obtain ⟨w8,hw_,hb⟩:=QN w1;rw [← hw_];clear hw_;have hS:=hb;replace hcw:=hcw.then_below hb;replace hB:=hB.bel hb;replace hM:=hM.bel hb;replace hR:=hR.bel hb;replace hB4:=hB4.bel hb;have zz8:=hb.size;clear hb
   refine oY Z (fun G U=>(Qk Qhu Z)) Z<|oY Z (fun G U=>(Qi Z U.1 uz9 Z Z)) Z<|oY Z (fun G U=>(Qd Z)) Z<|oY Z (fun G U=>(Qc Z)) Z<|oY Z (fun G U=>(Qk XB Z)) Z<|oY Z (fun G U=>(Qi Z U.2 uz77 Z Z)) Z<|oY Z (fun G U=>(QT Z Z uz77)) Z<|oL Z (fun Q_ hQ_ hP_=>(sc _ fz28 Z Qo Z Z (Q3 (XR _ _) fun w9 hb=>?_)))
   replace hcw:=hcw.then_below hb;replace hB:=hB.bel hb;replace hM:=hM.bel hb;replace hR:=hR.bel hb;replace hB4:=hB4.bel hb;have zz9:=hb.size;clear hb
   refine Wn<|hQ_ _ _ (⟨hB4,hB⟩) ?_
   clear hQ_ hP_ Q_
   refine oY Z (fun G U=>(Y7 Z Z)) Z<|oN<|nN<|Qx Z (fun h54=>?_) (fun h54=>?_)
   ·replace h54:=Qs h54
    refine Qa<|sa Z Z<|Wn<|tN<|Qg<|tR<|bR<|tR ?_
    have hk:p.kind=3:=by apply UInt8.toNat.inj; show p.kind.toNat=3; omega
    have hno:ZA n x p=none:=by unfold ZA; rw [if_neg (by rw [hk]; decide),if_pos hk,if_neg (by simpa using h54)]
    refine (rT Z Z (R:=Y9 w gx gm _ x (ZA n x p)) ?_).1;rw [hno];exact ⟨_,Z,⟨hB,hR,⟨m,hM,hm⟩,h32⟩,fun k hk=>.inl hk,hcw⟩
   ·replace h54:=Qs h54
    refine Qf<|tN<|Qw<|sm Z Z<|st (Qc Z) Z<|st (Qk Qnw Z) Z<|KL Z Z hB siz4 Z (by first|decide|simp) (fun w10 bB cC=>?_)
    replace hB:=bB;clear bB;replace hM:=hM.chg cC Z5;replace hR:=hR.chg cC Z5;replace hB4:=hB4.chg cC Z5;replace hcw:=hcw.next cC KO;have zz10:=cC.size;clear cC
    refine Wn<|bN<|tN<|Qa<|sm Z Z<|st (Qk Qht Z) Z<|st (Qi Z hB4 uz3 Z Z) Z<|st (Qc Z) Z<|st (Qk H3 Z) Z<|KL Z Z hB siz3 Z (by first|decide|simp) (fun w11 bB cC=>?_)
    replace hB:=bB;clear bB;replace hM:=hM.chg cC Z5;replace hR:=hR.chg cC Z5;replace hB4:=hB4.chg cC Z5;replace hcw:=hcw.next cC KO;have zz11:=cC.size;clear cC
    refine Wn<|tN<|Qa<|sa Z Z<|Wn<|tN<|Qg ?_
    have hk:p.kind=3:=by apply UInt8.toNat.inj; show p.kind.toNat=3; omega
    have hno:ZA n x p=some ⟨x.l,p.next,true⟩:=by unfold ZA; rw [if_neg (by rw [hk]; decide),if_pos hk,if_pos (by simpa using h54)]
    refine (rT Z Z (R:=Y9 w gx gm _ x (ZA n x p)) ?_).1;rw [hno];exact ⟨_,Z,⟨hB,hR,⟨m,hM,hm⟩,h32⟩,fun k hk=>.inl hk,hcw⟩
  ·replace h44:=Qs h44
   refine Qa<|sa Z Z<|Wn<|tN<|Qg<|bR<|tR ?_
   have hno:ZA n x p=none:=by unfold ZA; rw [if_neg (by intro e; rw [e] at h14; exact h14 rfl),if_neg (by intro e; rw [e] at h44; simp at h44)]
   refine (rT Z Z (R:=Y9 w gx gm _ x (ZA n x p)) ?_).1;rw [hno];exact ⟨_,Z,⟨hB,hR,⟨m,hM,hm⟩,h32⟩,fun k hk=>.inl hk,hcw⟩
end
section
open Go.RowKit
theorem Qmd {P:Program} {ops:Array Oper} {Q:Exit→Act→World→Prop} {lp n i:Nat} {K K':Act→World→Prop} {a:Act} {w:World} (hQ:¬LetsOut Q) (hn:∀ o,ops[i]?=some o→∀ c,o.op≠.defer c) (hK:∀ a w,K a w→K' a w)
  (h:wpOp P ops Q i K a w):wpOpIn (Fence.wide.inRound lp) n P ops Q i K' a w:=by
 unfold wpOp at h;unfold wpOpIn
 cases ho:ops[i]? with
 | none=>rw [ho] at h; exact hK _ _ h
 | some o =>
  rw [ho] at h;simp only at h ⊢
  split at h
  ·rename_i hw
   rw [if_pos hw];refine ⟨fun f _=>trivial,?_⟩;rw [VF _ _ _ (hn o ho)];have h':o.upon P a K Q ((execOp a.eval o).run P w):=h.resolve_right (fun h=>hQ h.2);exact Qbw hK h'
  ·rename_i hw
   rw [if_neg hw];exact ⟨fun f _=>trivial,hK _ _ h⟩
theorem H8 {P:Program} {md:Region.Mode} {ops:Array Oper} {Q:Exit→Act→World→Prop} {lp n:Nat} (hQ:¬LetsOut Q) (hn:∀ (i:Nat) (o:Oper),ops[i]?=some o→∀ c,o.op≠.defer c) :
  ∀ (fuel:Nat) {listed:Array Bool} {a:Act} {w:World},wpAny P md ops Q fuel listed a w→wpAnyIn (Fence.wide.inRound lp) n P md ops Q fuel listed a w
 | 0,_,_,_,h=>h
 | fuel+1,_,_,_,h=>⟨h.1,fun i hi=>Qmd hQ (hn i) (fun _ _ h=>H8 hQ hn fuel h) (h.2 i hi)⟩
theorem Qnc {l:List Oper} (h:YB l=true) (i:Nat) (o:Oper) (ho:l.toArray[i]?=some o):∀ c,o.op≠.defer c:=fun c hc=>by
 rw [List.getElem?_toArray] at ho
 have:=List.all_eq_true.1 h o (List.mem_of_getElem? ho)
 rw [hc] at this
 cases this
theorem Hq {P:Program} {Q:Exit→Act→World→Prop} {lp n id:Nat} {a:Act} {w:World} {l:List Oper} (S:World→Prop) (is:List Nat) (r:List Bool) (hm:P.follows .mixedOrders=true) (hok:(Region.noSelect l.toArray && Kz l.toArray is r (Array.replicate l.toArray.size false) && (is.length == l.length))=true)
  (hQ:∀ c a d v w,Q (.panic c) (a.put d v) w→Q (.panic c) a w) (hQ2:¬LetsOut Q) (hn:YB l=true) (hS:S w.drew) (h:J8 P l.toArray Q S (ZG l is) r a w.drew):(Code.region id l.toArray true).wpIn (Fence.wide.inRound lp) n P Q a w:=by
 simp only [Bool.and_eq_true,beq_iff_eq] at hok
 refine wpIn_region_any hm<|H8 hQ2 (Qnc hn) _<|wpAny_of_held _ _ _ _ (S:=S) ?_
 have:=Ks hok.1.1 hQ is r _ _ _ hok.1.2 hS h
 rw [hok.2] at this
 simpa using this
theorem Qwq {P:Program} {N lp n:Nat} {Q:Post} {os:List Oper} {l:Env} {w:World} {id:Nat} (S:World→Prop) (is:List Nat) (bs:List Bool) (hm:P.follows .mixedOrders=true) (hok:(Region.noSelect os.toArray && Kz os.toArray is bs (Array.replicate os.toArray.size false) && (is.length == os.length))=true)
  (hn:YB os=true) (hS:S w.drew) (h:WO P N [] os (Yi (fun l w=>Q .normal l w)) S is bs l w.drew):WI lp n P N Q (.region id os.toArray true) l w:=fun a ha =>
 wpIn_mono (Hq (Q:=X3 N [] (Yi (fun l w=>Q .normal l w))) S is bs hm hok (fun c a d v w h=>by obtain ⟨_,_,h⟩:=h; exact h.elim) (fun hl=>by obtain ⟨_,_,_,_,h⟩:=hl; exact h) hn hS (h a ha)) (fun e a w hq=>by
  obtain ⟨l',hr,hq⟩:=hq;refine ⟨l',hr,?_⟩
  cases e with
  | normal=>exact hq
  | _=>exact hq.elim)
end
end Go.Proofs.YtgiccohjijhfkaaGreatDoor
