/- Part 9. -/
import Derived.Test.YtgiccohjijhfkaaGreatDoorChecked
import Derived.WalkLawsBesides
import Derived.WalkSpells
import Derived.Deep.LoopGhost
import Derived.Deep.DeepMust
import Derived.Test.YtgiccohjijhfkaaGreatDoorPackPlaysP8
set_option maxRecDepth 100000
set_option maxHeartbeats 4000000
namespace Go.Proofs.YtgiccohjijhfkaaGreatDoor
section
open Go.RowKit
def Jh (e:Ent):List Value:=[Qv e.sum,.int .i64 e.pack,.int .i64 e.pos,.int .i64 e.len]
theorem Qjs (e:Ent):(Jh e).length=4:=rfl
theorem Zb (e:Ent):∀ v∈Jh e,v.oneCell'=true:=by
 intro v hv;simp only [Jh,List.mem_cons,List.not_mem_nil,or_false] at hv
 rcases hv with rfl|rfl|rfl|rfl <;> rfl
abbrev REnts (w:World) (v:Value) (l:List Ent):Prop:=Reads w 4 v l.length (l.flatMap Jh)
theorem REnts.range {w:World} {g o c:Nat} {l:List Ent} (h:REnts w (.slice (some ⟨g,o,none⟩) l.length c) l) {j:Nat} {x:Ent} (hx:l[j]?=some x):w.rangeAt g (o+j*4) (Jh x):=h.rec_ (fun a _=>Qjs a) hx
theorem brec (s:List UInt8) (a b c:Int) (w:World):(Instr.build 95 #[(0,Qv s),(1,.int .i64 a),(2,.int .i64 b),(3,.int .i64 c)]).run Tryz.prog w=.ok (.agg (Jh ⟨s,a,b,c⟩).toArray) w:=by kernel_rfl
theorem fieldsREntE:Tryz.prog.underlying 95=some (.struct (Tryz.prog.fieldsOf 95)):=by kernel_rfl
theorem ent_dec (a b:Ent):(a.sum == b.sum && (a.pack == b.pack && (a.pos == b.pos && a.len == b.len)))=decide (a=b):=by
 cases a; cases b
 rw [Bool.eq_iff_iff]
 simp
theorem eqREnt (a b:Ent) (w:World):(Op.equalIn 10000 95 (.agg (Jh a).toArray) (.agg (Jh b).toArray)).run Tryz.prog w=.ok (decide (a=b)) w:=by
 refine (run_equalIn_struct w 9999 _ _ _ fieldsREntE Qo).trans ?_;have hf:=Option.some.inj (fieldsREntE.symm.trans uz95);injection hf with hf;rw [hf]
 have h1:∀ c:Ent,(part 9 (Jh c).toArray 0).run Tryz.prog w=.ok (Qv c.sum) w:=fun c=>KU uz9 rfl rfl
 have h2:∀ c:Ent,(part 3 (Jh c).toArray 1).run Tryz.prog w=.ok (.int .i64 c.pack) w:=fun c=>KU uz3 rfl rfl
 have h3:∀ c:Ent,(part 3 (Jh c).toArray 2).run Tryz.prog w=.ok (.int .i64 c.pos) w:=fun c=>KU uz3 rfl rfl
 have h4:∀ c:Ent,(part 3 (Jh c).toArray 3).run Tryz.prog w=.ok (.int .i64 c.len) w:=fun c=>KU uz3 rfl rfl
 have e1:(Op.equalIn 9999 9 (Qv a.sum) (Qv b.sum)).run Tryz.prog w=.ok (a.sum == b.sum) w:=by
  unfold Qv;rw [run_equalIn_string w 9998 9 _ _ uz9,ByteArray.toList_eq,ByteArray.toList_eq]
 have e2:(Op.equalIn 9999 3 (.int .i64 a.pack) (.int .i64 b.pack)).run Tryz.prog w=.ok (a.pack == b.pack) w:=run_equalIn_int w 9998 3 .i64 .i64 _ _ uz3;have e3:(Op.equalIn 9999 3 (.int .i64 a.pos) (.int .i64 b.pos)).run Tryz.prog w=.ok (a.pos == b.pos) w:=run_equalIn_int w 9998 3 .i64 .i64 _ _ uz3;have e4:(Op.equalIn 9999 3 (.int .i64 a.len) (.int .i64 b.len)).run Tryz.prog w=.ok (a.len == b.len) w:=run_equalIn_int w 9998 3 .i64 .i64 _ _ uz3;rw [← ent_dec];exact Zk QF (h1 a) (h1 b) e1 (fun _=>Zk QF (h2 a) (h2 b) e2 (fun _=>Zk QF (h3 a) (h3 b) e3 (fun _=>VW QF (h4 a) (h4 b) e4)))
theorem Qwh {l:Env} {x y:Operand} {w:World} {t' ty:TypeId} {a b:Ent} (hx:ev l x=some (.agg (Jh a).toArray)) (hy:ev l y=some (.agg (Jh b).toArray)):X Tryz.prog l (.binOp .neq 95 x y t') ty w (.bool (decide (a≠b))) w :=
 JJ hx hy (fun c d=>run_eqGuard_agg w .neq _ c d _ _ Qo) (by rw [run_neq_struct,eqREnt]; simp [Result.andThen])
theorem Qvs {W:World} {g o:Nat} {x:Ent} (h:W.rangeAt g o x.cells):W.rangeAt g (o+0) (x.sum.map bv):=fun i v hv=>by
 refine h i v ?_;unfold Ent.cells;rw [List.getElem?_append_left (List.getElem?_eq_some_iff.1 hv).1,hv]
theorem Qpe (v:Value) (l:List Ent) (w:World) (h:EntsAt w v l) (h32:Yt l) (hl:l.length≤1000000) :
  Calls Tryz.prog 89 #[v] w fun e w'=>∃ v',e=.returned v'∧Row w' 95 4 v' l.length (l.flatMap Jh)∧(∀ k,v'.ownBlock=some k→w.heap.size≤k)∧Below w.heap.size w w':=by
 obtain ⟨a,cp,rfl,hn,hcp⟩:=h.shape
 refine Qj (args:=[.slice a l.length cp]) 37 Tryz.func89 Z Z Z<|Qt [(0,.slice a l.length cp)] ?_ ⟨Z,tvA⟩
 have bw:=Below.refl w.heap.size w
 refine Qa<|sa Z Z<|Wn<|tN<|Qa<|sa Z Z<|Wn<|tN<|Qe<|Qa<|sa Z Z<|Wn<|tN<|Qp<|JG (fun nw1_ lw1_ w1=>∃ j:Nat,∃ v:Value,nw1_=l.length-j∧lw1_=([(0,.slice a l.length cp),(3,v),(4,.int .i64 j)]:Env)∧(j≤l.length)∧(Row w1 95 4 v j ((l.take j).flatMap Jh))∧(∀ k,v.ownBlock=some k→w.heap.size≤k)∧(Below w.heap.size w w1)) _ ⟨_,⟨0,.slice none 0 0,Z,Z,by omega,Row.nil _ _ _,(fun k hk=>by simp [Value.ownBlock] at hk),bw⟩,⟨Z,Z,Z,tvA⟩⟩ ?_
 clear bw;rintro nw1_ lw1_ w1 ⟨j,v,rfl,rfl,hj,hR,hO,bw⟩;have zz1:=bw.size
 refine Qe<|Qa<|sm Z Z<|sm Z Z<|st (QT Z Z uz77) Z<|st (QJ Z Z) Z<|Wn<|tN<|Qx Z (fun h8=>?_) (fun h8=>?_)
 ·replace h8:=Qs h8
  obtain ⟨x,hx⟩:∃ x,l[j]?=some x:=⟨_,List.getElem?_eq_getElem Qb⟩
  obtain ⟨g1,o1,c',hv,hg1⟩:=(h.bel bw).some_ Qb;injection hv with e1 _ e3;subst e1 e3;have hxs:=h32 x (List.mem_of_getElem? hx)
  refine Qf<|tN<|Qe<|Qp<|Qan (fun G=>G.rangeAt g1 (o1+j*35) x.cells) [0,1,2,3,4,5,7,8,9,10,11,12,13,14,15,16,17,18,19,20,21,6,22,23,24,25] [Y,Y,Y,Y,Y,Y,Y,Y,Y,Y,Y,Y,Y,Y,Y,Y,Y,Y,Y,Y,Y,false,Y,false,false,Y] Qo Qo (EntsAt.range (h.bel (JC bw)) h32 hx) ?_
  obtain ⟨w2,hw_,hb⟩:=QN w1;rw [← hw_];clear hw_;have hS:=hb;have pq:=hb;replace bw:=Ql bw hb;have zz2:=hb.size;clear hb
  refine oY Z (fun G U=>(Qd Z)) Z<|oY Z (fun G U=>(Qd Z)) Z<|oY Z (fun G U=>(Qd Z)) Z<|oY Z (fun G U=>(QA Z Z uz77 siz59 Z Qb)) Z<|oY Z (fun G U=>(Qk Y0 Z)) Z<|oY Z (fun G U=>(Jw (cs:=x.sum.map bv) Z uz57 Z (by rw [List.length_map,hxs]; exact siz57) (Qvs U))) Z ?_
  refine oY Z (fun G U=>(Qd Z)) Z<|oY Z (fun G U=>(Qd Z)) Z<|oY Z (fun G U=>(QA Z Z uz77 siz59 Z Qb)) Z<|oY Z (fun G U=>(Qk Qho Z)) Z<|oY Z (fun G U=>(JS Z uz3 Z (U 32 (.int .i64 x.pack) (by simp [Ent.cells,hxs])))) Z ?_
  refine oY Z (fun G U=>(Qd Z)) Z<|oY Z (fun G U=>(Qd Z)) Z<|oY Z (fun G U=>(QA Z Z uz77 siz59 Z Qb)) Z<|oY Z (fun G U=>(Qk H4 Z)) Z<|oY Z (fun G U=>(JS Z uz3 Z (U 33 (.int .i64 x.pos) (by simp [Ent.cells,hxs])))) Z ?_
  refine oY Z (fun G U=>(Qd Z)) Z<|oY Z (fun G U=>(Qd Z)) Z<|oY Z (fun G U=>(QA Z Z uz77 siz59 Z Qb)) Z<|oY Z (fun G U=>(Qk Vv Z)) Z<|oY Z (fun G U=>(JS Z uz3 Z (U 34 (.int .i64 x.len) (by simp [Ent.cells,hxs])))) Z ?_
  refine oL Z (fun Q_ hQ_ hP_=>(sc _ Tryz.func130 Z Qo Z Z (Q3 (Qou x.sum _ hxs) fun w3 hb=>?_)));replace pq:=Ql pq hb;replace bw:=Ql bw hb;have zz3:=hb.size;clear hb
  refine Wn<|hQ_ _ _ (EntsAt.range (h.bel bw) h32 hx) ?_
  clear hQ_ hP_ Q_
  refine oY Z (fun G U=>(Ja Z (brec _ _ _ _ _))) Z<|oL Z (fun Q_ hQ_ hP_=>(Zy Z uz35 inf95 Z Z QF QF Z (fun g34 w4 hR34 hg34 hb=>?_)))
  replace pq:=Ql pq hb;replace bw:=Ql bw hb;have zz4:=hb.size;clear hb;have hl34:=hR34.blt QF
  refine Wn<|hQ_ _ _ (EntsAt.range (h.bel bw) h32 hx) ?_
  clear hQ_ hP_ Q_;refine oL Z (fun Q_ hQ_ hP_=>?_);replace hR:=hR.bel pq;clear pq;refine Z4 Z Z uz35 inf95 Z QF hR (hR34.reads.src uz35 (Zb x)) (by simp only [maxLen]; omega) Qb Z (fun v' w5 hR' hC hv'=>?_);replace bw:=KM bw hC hO;replace hO:=JE hv' hO Qb;clear hC hv'
  refine Wn<|hQ_ _ _ (EntsAt.range (h.bel bw) h32 hx) ?_
  clear hQ_ hP_ Q_
  refine oY Z (fun G U=>(Qy Z)) Z<|oN<|nN<|bN<|tN<|Qw<|sm Z Z<|st (Qn Z Z Qb) Z<|sa Z Z<|Wn<|tN ⟨_,_,?_,⟨j+1,v',Z,Z,by omega,by rw [QK hx,List.flatMap_append]; exact hR',hO,bw⟩,⟨Z,Z,Z,tvA⟩⟩
  omega
 ·replace h8:=Qs h8
  obtain rfl:j=l.length:=by omega
  rw [List.take_length] at hR
  refine QQ<|tE<|tE<|bH<|tN<|Qa<|sm Z Z<|sa Z Z<|Wn<|tN<|Qg ?_
  exact (rT Z Z ⟨_,Z,hR,hO,bw⟩).1
theorem JN (va vb:Value) (la lb:List Ent) (w:World) (ha:EntsAt w va la) (h32:Yt la) (hl:la.length≤1000000) (hb_:REnts w vb lb) :
  Calls Tryz.prog 40 #[va,vb] w fun e w'=>e=.returned (.bool (decide (la=lb)))∧Below w.heap.size w w':=by
 obtain ⟨aa,ca,rfl,han,hac⟩:=ha.shape;obtain ⟨ab,cb,rfl,hbn,hbc⟩:=hb_.shape
 refine Qj (args:=[.slice aa la.length ca,.slice ab lb.length cb]) 29 fz40 Z Z Z<|Qt [(0,.slice aa la.length ca),(1,.slice ab lb.length cb)] ?_ ⟨Z,Z,tvA⟩
 have bw:=Below.refl w.heap.size w
 refine Qa<|sa Z Z<|Wn<|tN<|Qe<|Qa<|sm Z Z<|st (QT Z Z uz77) Z<|sm Z Z<|st (QT Z Z uz35) Z<|st (QC Z Z) Z<|Wn<|tN<|Qx Z (fun h11=>?_) (fun h11=>?_)
 ·replace h11:=Qs h11
  refine Qa<|sa Z Z<|Wn<|tN<|Qg<|tR<|(rT Z Z ⟨?_,bw⟩).1
  rw [show decide (la=lb)=false from decide_eq_false (fun h=>by subst h; exact h11 rfl)]
 ·replace h11:=Qs h11
  refine Qf<|tN<|Qa<|sm Z Z<|sc _ Tryz.func89 Z Qo Z Z<|(Qpe _ la _ (ha.bel bw) h32 hl).mono ?_
  rintro e_ w1 ⟨vp,rfl,hR,hO,hb⟩;refine cR ?_;replace bw:=Ql bw hb;have zz1:=hb.size;clear hb;have hP:REnts w1 vp la:=hR.reads;clear hR;obtain ⟨ap,c_p,rfl,hpn,hpc⟩:=hP.shape
  refine sa Z Z<|Wn<|tN<|Qe<|Qa<|sa Z Z<|Wn<|tN<|Qp<|JG (fun nw2_ lw2_ w2=>∃ j:Nat,nw2_=la.length-j∧lw2_=([(0,.slice aa la.length ca),(1,.slice ab lb.length cb),(5,.slice ap la.length c_p),(6,.int .i64 j)]:Env)∧(j≤la.length)∧(la.take j=lb.take j)∧(REnts w2 (.slice ap la.length c_p) la)∧(Below w.heap.size w w2)) _ ⟨_,⟨0,Z,Z,by omega,Z,hP,bw⟩,⟨Z,Z,Z,Z,tvA⟩⟩ ?_
  clear hP bw;rintro nw2_ lw2_ w2 ⟨j,rfl,rfl,hj,hq,hP,bw⟩;have zz2:=bw.size
  refine Qe<|Qa<|sm Z Z<|sm Z Z<|st (QT Z Z uz77) Z<|st (QJ Z Z) Z<|Wn<|tN<|Qx Z (fun h17=>?_) (fun h17=>?_)
  ·replace h17:=Qs h17
   obtain ⟨x,hx⟩:∃ x,la[j]?=some x:=⟨_,List.getElem?_eq_getElem Qb⟩
   obtain ⟨y,hy⟩:∃ y,lb[j]?=some y:=⟨_,List.getElem?_eq_getElem Qb⟩
   obtain ⟨g1,o1,c',hv,hg1⟩:=hP.some_ Qb;injection hv with e1 _ e3;subst e1 e3;obtain ⟨g2,o2,c',hv,hg2⟩:=(hb_.bel bw).some_ Qb;injection hv with e1 _ e3;subst e1 e3
   refine Qf<|tN<|Qe<|Qp<|QS (fun G=>G.rangeAt g1 (o1+j*4) (Jh x)∧G.rangeAt g2 (o2+j*4) (Jh y)) [0,1,2,3,4,5,6,7,8] [Y,Y,Y,Y,Y,Y,Y,Y,Y] Qo Qo (⟨REnts.range (hP.bel (JC X4)) hx,REnts.range (hb_.bel (JC bw)) hy⟩) ?_
   obtain ⟨w3,hw_,hb⟩:=QN w2;rw [← hw_];clear hw_;have hS:=hb;replace bw:=Ql bw hb;replace hP:=hP.bel hb;have zz3:=hb.size;clear hb
   refine oY Z (fun G U=>(Qd Z)) Z<|oY Z (fun G U=>(Qd Z)) Z<|oY Z (fun G U=>(QA Z Z uz35 siz95 Z Qb)) Z<|oY Z (fun G U=>(Jw (cs:=Jh x) Z uz95 Z siz95 U.1)) Z<|oY Z (fun G U=>(Qd Z)) Z<|oY Z (fun G U=>(Qd Z)) Z<|oY Z (fun G U=>(QA Z Z uz35 siz95 Z Qb)) Z<|oY Z (fun G U=>(Jw (cs:=Jh y) Z uz95 Z siz95 U.2)) Z<|oY Z (fun G U=>(Qwh Z Z)) Z<|oN<|nN<|Qx Z (fun h28=>?_) (fun h28=>?_)
   ·replace h28:=Qs h28
    refine Qa<|sa Z Z<|Wn<|tN<|Qg<|bR<|tR<|tR<|bR<|tR<|(rT Z Z ⟨?_,bw⟩).1
    rw [show decide (la=lb)=false from decide_eq_false (at_ne hx hy h28)]
   ·replace h28:=Qs h28
    refine Qf<|bN<|tN<|Qw<|sm Z Z<|st (Qn Z Z Qb) Z<|sa Z Z<|Wn<|tN ⟨_,_,?_,⟨j+1,Z,Z,by omega,by rw [QK hx,QK hy,hq,Classical.not_not.1 h28],hP,bw⟩,⟨Z,Z,Z,Z,tvA⟩⟩
    omega
  ·replace h17:=Qs h17
   refine QQ<|tE<|tE<|bH<|tN<|Qa<|sa Z Z<|Wn<|tN<|Qg ?_
   obtain rfl:j=la.length:=by omega
   refine (rT Z Z ⟨?_,bw⟩).1;rw [show decide (la=lb)=true from decide_eq_true (Qtr Qb hq)]
theorem YL (n:Int) (w:World):Calls Tryz.prog 132 #[.int .i64 n] w fun e w'=>e=.returned (.bool (YD n))∧Below w.heap.size w w':=by
 refine Qj (args:=[.int .i64 n]) 9 fz132 Z Z Z<|Qt [(0,.int .i64 n)] ?_ ⟨Z,tvA⟩
 have bw:=Below.refl w.heap.size w
 refine Qa<|sa Z Z<|Wn<|tN<|Qa<|sm Z Z<|st (Z1 Z Z) Z<|sb Z Z (fun h5=>?_) (fun h5=>?_)
 ·replace h5:=Qs h5
  refine gY Z Z Z<|sm Z Z<|gY Z Z Z<|st (V7 Z Z) Z<|st (Qm Z Z) Z<|sa Z Z<|Wn<|tN<|Qg<|(rT Z Z ⟨?_,bw⟩).1
  congr 2
  unfold YD
  simp
  omega
 ·replace h5:=Qs h5
  refine gN Z Z Z Z<|gN Z Z Z Z<|st (Qq Z Z) Z<|sa Z Z<|Wn<|tN<|Qg<|(rT Z Z ⟨?_,bw⟩).1
  congr 2
  unfold YD
  simp
  omega
theorem YU (e:Ent):(Jh e).toArray.toList.all (·.oneCell')=true:=by simp [Jh,Value.oneCell',Qv]
end
section
open Go.RowKit
def InsInv (O:List Ent) (x:Ent) (d:Bool) (k:Nat) (N:List Ent):Prop:=(d=true→Up (N++O.drop k)∧(N++O.drop k).Perm (x::O))∧(d=false→N=O.take k∧∀ y∈N,y.sum<x.sum)
section
variable {O N:List Ent} {x o:Ent} {k:Nat}
theorem InsInv.start:InsInv O x false 0 []:=⟨fun h=>(by cases h),fun _=>⟨rfl,fun y hy=>(by simp at hy)⟩⟩
theorem InsInv.keep (h:InsInv O x true k N) (ho:O[k]?=some o):InsInv O x true (k+1) (N++[o]):=by
 obtain ⟨hk,rfl⟩:=List.getElem?_eq_some_iff.1 ho
 have:=h.1 rfl
 rw [List.drop_eq_getElem_cons hk] at this;refine ⟨fun _=>?_,fun h=>by cases h⟩;rw [List.append_assoc];exact this
theorem InsInv.pass (h:InsInv O x false k N) (ho:O[k]?=some o) (hlt:o.sum<x.sum):InsInv O x false (k+1) (N++[o]):=by
 obtain ⟨h1,h2⟩:=h.2 rfl;refine ⟨fun h=>(by cases h),fun _=>⟨by rw [h1,QK ho],fun y hy=>?_⟩⟩
 rcases List.mem_append.1 hy with h3|h3
 ·exact h2 y h3
 ·simp at h3; rw [h3]; exact hlt
theorem ins_up (hu:Up O) (h2:∀ y∈O.take k,y.sum<x.sum) (h3:∀ y∈O.drop k,x.sum<y.sum):Up (O.take k++x::O.drop k):=by
 have hu':Up (O.take k++O.drop k):=by rw [List.take_append_drop]; exact hu
 obtain ⟨a1,a2,a3⟩:=List.pairwise_append.1 hu';refine List.pairwise_append.2 ⟨a1,List.pairwise_cons.2 ⟨h3,a2⟩,fun a ha b hb=>?_⟩
 rcases List.mem_cons.1 hb with rfl|hb
 ·exact h2 a ha
 ·exact a3 a ha b hb
theorem InsInv.put (h:InsInv O x false k N) (hu:Up O) (ho:O[k]?=some o) (hlt:x.sum<o.sum):InsInv O x true (k+1) (N++[x]++[o]):=by
 obtain ⟨h1,h2⟩:=h.2 rfl;obtain ⟨hk,rfl⟩:=List.getElem?_eq_some_iff.1 ho;subst h1
 have e:O.take k++[x]++[O[k]]++O.drop (k+1)=O.take k++x::O.drop k:=by rw [List.drop_eq_getElem_cons hk]; simp
 refine ⟨fun _=>?_,fun h=>(by cases h)⟩;rw [e];refine ⟨ins_up hu h2 fun y hy=>?_,?_⟩
 ·obtain ⟨i,hi⟩:=List.mem_iff_getElem?.1 hy;rw [List.getElem?_drop] at hi
  rcases Nat.eq_zero_or_pos i with rfl|hp
  ·rw [Nat.add_zero,List.getElem?_eq_getElem hk] at hi; injection hi with hi; rw [← hi]; exact hlt
  ·exact JL hlt<|hu.at_ (List.getElem?_eq_getElem hk) hi Qb
 ·refine List.perm_middle.trans ?_;rw [List.take_append_drop]
theorem InsInv.done (h:InsInv O x true O.length N):Up N∧N.Perm (x::O):=by
 have:=h.1 rfl
 rwa [List.drop_length,List.append_nil] at this
theorem InsInv.last (h:InsInv O x false O.length N) (hu:Up O):Up (N++[x])∧(N++[x]).Perm (x::O):=by
 obtain ⟨h1,h2⟩:=h.2 rfl;rw [List.take_length] at h1;subst h1;exact ⟨Qpl hu h2,List.perm_append_comm⟩
end
theorem VP {l O N:List Ent} {i:Nat} {x:Ent} (h:IsIdx O (l.take i)) (hx:l[i]?=some x) (hN:Up N∧N.Perm (x::O)):IsIdx N (l.take (i+1)):=by
 refine ⟨hN.2.trans ?_,hN.1⟩;rw [QK hx];exact (List.Perm.cons x h.perm).trans (List.perm_append_singleton x _).symm
theorem Qfl {l:List Ent} {i:Nat} {x o:Ent} (hx:l[i]?=some x) (ho:o∈l.take i) (he:o.sum=x.sum) (h1:l.length≤65536) (h2:l.all Ze=true):Jb l=([],16):=by
 unfold Jb;rw [if_neg Qb,if_neg (by rw [h2]; simp),if_neg];intro hn;rw [List.Nodup,List.pairwise_map,List.pairwise_iff_getElem] at hn;obtain ⟨j,hj⟩:=List.mem_iff_getElem?.1 ho;have hjl:=(List.getElem?_eq_some_iff.1 hj).1;rw [List.length_take] at hjl;rw [List.getElem?_take_of_lt Qb] at hj;obtain ⟨q1,e1⟩:=List.getElem?_eq_some_iff.1 hj;obtain ⟨q2,e2⟩:=List.getElem?_eq_some_iff.1 hx;refine hn j i q1 q2 Qb ?_;rw [e1,e2,he]
theorem Row.own_ltE {w:World} {e:TypeId} {size n:Nat} {v:Value} {xs:List Value} (h:Row w e size v n xs):∀ k,v.ownBlock=some k→k<w.heap.size:=fun k hk=>by
 rcases h.2 with ⟨rfl,_⟩|⟨g,off,cap,cur,fz,rfl,hg,_⟩
 ·simp [Value.ownBlock] at hk
 ·simp [Value.ownBlock] at hk;subst hk;exact (Array.getElem?_eq_some_iff.1 hg).1
theorem REnts.nil (w:World):REnts w (.slice none 0 0) []:=(Row.nil w 95 4).reads
def RIdx (w:World) (r:List Ent×Int) (e:Ending) (w':World):Prop:=∃ v,e=.returned (.tuple #[v,.int .i64 r.2])∧REnts w' v r.1∧Below w.heap.size w w'
theorem Zu {w w':World} {r:List Ent×Int} {k:Int} (h:r=([],k)) (hb:Below w.heap.size w w'):RIdx w r (.returned (.tuple #[.slice none 0 0,.int .i64 k])) w':=by
 subst h;exact ⟨_,Z,REnts.nil _,hb⟩
theorem Qta (v:Value) (l:List Ent) (w:World) (h:REnts w v l) (hl:l.length≤1000000):Calls Tryz.prog 92 #[v] w (RIdx w (Jb l)):=by
 obtain ⟨a,cp,rfl,hn,hcp⟩:=h.shape
 refine Qj (args:=[.slice a l.length cp]) 107 Tryz.func92 Z Z Z<|Qt [(0,.slice a l.length cp)] ?_ ⟨Z,tvA⟩
 have bw:=Below.refl w.heap.size w
 refine Qa<|sa Z Z<|sa Z Z<|Wn<|tN<|Qe<|Qa<|sm Z Z<|st (QT Z Z uz35) Z<|st (Jg Z Z) Z<|Wn<|tN<|Qx Z (fun h12=>?_) (fun h12=>?_)
 ·replace h12:=Qs h12
  refine Qa<|sa Z Z<|sa Z Z<|Wn<|tN<|Qg<|tR ?_
  exact (J6 Z Z Z (Zu (Qgy Qb) bw)).1
 ·replace h12:=Qs h12
  refine Qf<|tN<|Qe<|Qa<|sa Z Z<|Wn<|tN<|Qp<|JG (fun nw1_ lw1_ w1=>∃ j:Nat,nw1_=l.length-j∧lw1_=([(0,.slice a l.length cp),(4,.int .i64 j)]:Env)∧(j≤l.length)∧(l.all Ze=(l.drop j).all Ze)∧(Below w.heap.size w w1)) _ ⟨_,⟨0,Z,Z,by omega,Z,bw⟩,⟨Z,Z,tvA⟩⟩ ?_
  clear bw;rintro nw1_ lw1_ w1 ⟨j,rfl,rfl,hj,hq,bw⟩;have zz1:=bw.size
  refine Qe<|Qa<|sm Z Z<|sm Z Z<|st (QT Z Z uz35) Z<|st (QJ Z Z) Z<|Wn<|tN<|Qx Z (fun h16=>?_) (fun h16=>?_)
  ·replace h16:=Qs h16
   obtain ⟨x,hx⟩:∃ x,l[j]?=some x:=⟨_,List.getElem?_eq_getElem Qb⟩
   obtain ⟨g1,o1,c',hv,hg1⟩:=(h.bel bw).some_ Qb;injection hv with e1 _ e3;subst e1 e3
   refine Qf<|tN<|Qe<|Qp<|Qa<|sm Z Z<|sm Z Z<|st (QA Z Z uz35 siz95 Z Qb) Z<|st (Qk Qnu Z) Z<|st (JS Z uz3 Z (REnts.range (h.bel bw) hx 1 _ Z)) Z<|sc _ fz132 Z Qo Z Z (Q3 (YL x.pack _) fun w2 hb=>?_)
   replace bw:=Ql bw hb;have zz2:=hb.size;clear hb
   refine st (Jk Z) Z<|sb Z Z (fun h26=>?_) (fun h26=>?_)
   ·replace h26:=Qs h26
    refine gN Z Z Z Z<|gN Z Z Z Z<|gN Z Z Z Z<|gN Z Z Z Z<|gN Z Z Z Z<|gN Z Z Z Z<|gN Z Z Z Z<|st (Qm Z Z) Z<|sm Z Z<|gN Z Z Z Z<|gN Z Z Z Z<|gN Z Z Z Z<|gN Z Z Z Z<|gN Z Z Z Z<|gN Z Z Z Z<|gN Z Z Z Z<|st (Qm Z Z) Z<|Wn<|tN<|QO Z (Z)<|Qa<|sa Z Z<|sa Z Z<|Wn<|tN<|Qg<|bR<|tR<|tR<|bR<|tR ?_
    have hfx:Ze x=false:=by unfold Ze YD; rw [decide_eq_false h26]; rfl
    exact (J6 Z Z Z (Zu (Vn Qb (by rw [hq,Yb hx,hfx]; rfl)) bw)).1
   ·replace h26:=Qs h26
    refine gY Z Z Z<|sm Z Z<|gY Z Z Z<|sm Z Z<|gY Z Z Z<|st (QA Z Z uz35 siz95 Z Qb) Z<|gY Z Z Z<|st (Qk Qdh Z) Z<|gY Z Z Z<|st (JS Z uz3 Z (REnts.range (h.bel bw) hx 2 _ Z)) Z<|gY Z Z Z<|sc _ fz132 Z Qo Z Z (Q3 (YL x.pos _) fun w3 hb=>?_)
    replace bw:=Ql bw hb;have zz3:=hb.size;clear hb
    refine gY Z Z Z<|st (Jk Z) Z<|st (Qq Z Z) Z<|sb Z Z (fun h35=>?_) (fun h35=>?_)
    ·replace h35:=Qs h35
     refine gN Z Z Z Z<|gN Z Z Z Z<|gN Z Z Z Z<|gN Z Z Z Z<|gN Z Z Z Z<|gN Z Z Z Z<|gN Z Z Z Z<|st (Qm Z Z) Z<|Wn<|tN<|QO Z (Z)<|Qa<|sa Z Z<|sa Z Z<|Wn<|tN<|Qg<|bR<|tR<|tR<|bR<|tR ?_
     have hfx:Ze x=false:=by unfold Ze YD; rw [decide_eq_false h35,Bool.and_false,Bool.false_and]
     exact (J6 Z Z Z (Zu (Vn Qb (by rw [hq,Yb hx,hfx]; rfl)) bw)).1
    ·replace h35:=Qs h35
     refine gY Z Z Z<|sm Z Z<|gY Z Z Z<|sm Z Z<|gY Z Z Z<|st (QA Z Z uz35 siz95 Z Qb) Z<|gY Z Z Z<|st (Qk Qhl Z) Z<|gY Z Z Z<|st (JS Z uz3 Z (REnts.range (h.bel bw) hx 3 _ Z)) Z<|gY Z Z Z<|sc _ fz132 Z Qo Z Z (Q3 (YL x.len _) fun w4 hb=>?_)
     replace bw:=Ql bw hb;have zz4:=hb.size;clear hb
     refine gY Z Z Z<|st (Jk Z) Z<|st (Qq Z Z) Z<|Wn<|tN<|Qx Z (fun h43=>?_) (fun h43=>?_)
     ·replace h43:=Qs h43
      refine Qa<|sa Z Z<|sa Z Z<|Wn<|tN<|Qg<|bR<|tR<|tR<|bR<|tR ?_
      have hfx:Ze x=false:=by unfold Ze YD; rw [decide_eq_false h43,Bool.and_false]
      exact (J6 Z Z Z (Zu (Vn Qb (by rw [hq,Yb hx,hfx]; rfl)) bw)).1
     ·replace h43:=Qs h43
      have hfx:Ze x=true:=by unfold Ze YD; rw [decide_eq_true h26,decide_eq_true h35,decide_eq_true h43]; rfl
      refine Qf<|bN<|tN<|Qw<|sm Z Z<|st (Qn Z Z Qb) Z<|sa Z Z<|Wn<|tN ⟨_,_,?_,⟨j+1,Z,Z,by omega,by rw [hq,Yb hx,hfx]; rfl,bw⟩,⟨Z,Z,tvA⟩⟩
      omega
  ·replace h16:=Qs h16
   obtain rfl:j=l.length:=by omega
   rw [List.drop_length] at hq;have hfit:l.all Ze=true:=hq.trans rfl
   refine QQ<|tE<|tE<|bH<|tN<|Qa<|sa Z Z<|Wn<|tN<|Qe<|Qa<|sa Z Z<|Wn<|tN<|Qp<|JG (fun nw5_ lw5_ w5=>∃ i:Nat,∃ O:List Ent,∃ v5:Value,nw5_=l.length-i∧lw5_=([(0,.slice a l.length cp),(5,v5),(6,.int .i64 i)]:Env)∧(i≤l.length)∧(IsIdx O (l.take i))∧(Row w5 95 4 v5 O.length (O.flatMap Jh))∧(∀ k,v5.ownBlock=some k→w.heap.size≤k)∧(Below w.heap.size w w5)) _ ⟨_,⟨0,[],.slice none 0 0,Z,Z,by omega,⟨.refl _,.nil⟩,Row.nil _ _ _,(fun k hk=>by simp [Value.ownBlock] at hk),bw⟩,⟨Z,Z,Z,tvA⟩⟩ ?_
   clear bw;rintro nw5_ lw5_ w5 ⟨i,O,v5,rfl,rfl,hi,hI,hR,hO,bw⟩;have zz5:=bw.size
   refine Qe<|Qa<|sm Z Z<|sm Z Z<|st (QT Z Z uz35) Z<|st (QJ Z Z) Z<|Wn<|tN<|Qx Z (fun h47=>?_) (fun h47=>?_)
   ·replace h47:=Qs h47
    obtain ⟨x,hx⟩:∃ x,l[i]?=some x:=⟨_,List.getElem?_eq_getElem Qb⟩
    obtain ⟨g1,o1,c',hv,hg1⟩:=(h.bel bw).some_ Qb;injection hv with e1 _ e3;subst e1 e3
    have hOl:O.length=i:=by rw [hI.perm.length_eq,List.length_take]; omega
    obtain ⟨a5,c5,rfl,hn5,hc5⟩:=hR.shape;have h5l:=hR.own_ltE
    refine Qf<|tN<|Qe<|Qp<|Qa<|sa Z Z<|Wn<|tN<|Qa<|sa Z Z<|Wn<|tN<|Qe<|Qa<|sa Z Z<|Wn<|tN<|Qp ?_
    obtain ⟨wk,hwk⟩:∃ G:World,G=w5:=⟨_,rfl⟩
    have h5k:∀ k,(Value.slice a5 O.length c5).ownBlock=some k→k<wk.heap.size:=by rw [hwk]; exact h5l
    have hwkz:w.heap.size≤wk.heap.size:=by rw [hwk]; exact bw.size
    have hkz:wk.heap.size≤(w5).heap.size:=by rw [hwk]; exact Nat.le_refl _
    clear hwk;refine JG (fun nw6_ lw6_ w6=>∃ k:Nat,∃ d:Bool,∃ N:List Ent,∃ v7:Value,nw6_=O.length-k∧lw6_=([(0,.slice (some ⟨g1,o1,none⟩) l.length cp),(5,.slice a5 O.length c5),(6,.int .i64 i),(7,v7),(8,.bool d),(9,.int .i64 k)]:Env)∧(k≤O.length)∧(wk.heap.size≤(w6).heap.size)∧(InsInv O x d k N)∧(N.length≤k+1)∧(Row w6 95 4 (.slice a5 O.length c5) O.length (O.flatMap Jh))∧(Row w6 95 4 v7 N.length (N.flatMap Jh))∧(∀ k,v7.ownBlock=some k→wk.heap.size≤k)∧(Below w.heap.size w w6)) _ ⟨_,⟨0,false,[],.slice none 0 0,Z,Z,by omega,hkz,InsInv.start,by simp,hR,Row.nil _ _ _,(fun k hk=>by simp [Value.ownBlock] at hk),bw⟩,⟨Z,Z,Z,Z,Z,Z,tvA⟩⟩ ?_;clear hkz hR bw;rintro nw6_ lw6_ w6 ⟨k,d,N,v7,rfl,rfl,hk,hkz,hm,hNl,hR,hR7,hO7,bw⟩;have zz6:=bw.size
    refine Qe<|Qa<|sm Z Z<|sm Z Z<|st (QT Z Z uz35) Z<|st (QJ Z Z) Z<|Wn<|tN<|Qx Z (fun h53=>?_) (fun h53=>?_)
    ·replace h53:=Qs h53
     obtain ⟨o,ho⟩:∃ o,O[k]?=some o:=⟨_,List.getElem?_eq_getElem Qb⟩
     have hRe:=hR.reads;obtain ⟨g2,o2,c',hv,hg2⟩:=hRe.some_ Qb;injection hv with e1 _ e3;subst e1 e3
     refine Qf<|tN<|Qe<|Qp<|Qe<|QS (fun G=>G.rangeAt g2 (o2+k*4) (Jh o)∧G.rangeAt g1 (o1+i*4) (Jh x)) [0,1,2,3,4,5,6,7,8,9,10] [Y,Y,Y,Y,Y,Y,Y,Y,Y,Y,Y] Qo Qo (⟨REnts.range (hRe.bel (JC X4)) ho,REnts.range (h.bel (JC bw)) hx⟩) ?_
     obtain ⟨w7,hw_,hb⟩:=QN w6;rw [← hw_];clear hw_;have hS:=hb;have pq:=hb;replace bw:=Ql bw hb;have zz7:=hb.size;clear hb
     refine oY Z (fun G U=>(Qd Z)) Z<|oY Z (fun G U=>(Qd Z)) Z<|oY Z (fun G U=>(QA Z Z uz35 siz95 Z Qb)) Z<|oY Z (fun G U=>(Qk K1 Z)) Z<|oY Z (fun G U=>(JS Z uz9 Z (U.1 0 _ Z))) Z<|oY Z (fun G U=>(Qd Z)) Z<|oY Z (fun G U=>(Qd Z)) Z<|oY Z (fun G U=>(QA Z Z uz35 siz95 Z Qb)) Z<|oY Z (fun G U=>(Qk K1 Z)) Z<|oY Z (fun G U=>(JS Z uz9 Z (U.2 0 _ Z))) Z<|oY Z (fun G U=>(KR Z Z)) Z<|oN<|nN<|Qx Z (fun h66=>?_) (fun h66=>?_)
     ·replace h66:=Qs h66
      refine Qa<|sa Z Z<|sa Z Z<|Wn<|tN ?_
      replace hR:=hR.bel pq;replace hR7:=hR7.bel pq;clear pq
      refine Qg<|tR<|bR<|tR<|tR<|bR<|tR<|bR<|tR<|tR<|bR<|tR ?_
      exact (J6 Z Z Z (Zu (Qfl hx (hI.perm.mem_iff.1 (List.mem_of_getElem? ho)) h66 Qb hfit) bw)).1
     ·replace h66:=Qs h66
      refine Qf<|tN<|Qe ?_
      by_cases hsp_:d=false
      ·replace hR:=hR.bel pq;replace hR7:=hR7.bel pq;clear pq;refine QS (fun G=>G.rangeAt g2 (o2+k*4) (Jh o)∧G.rangeAt g1 (o1+i*4) (Jh x)) [0,1,2,3,4,5,6,7,8,9,10,11,12,13,14] [Y,Y,Y,Y,Y,Y,Y,Y,Y,Y,Y,Y,Y,Y,Y] Qo Qo (⟨REnts.range (hR.reads.bel (JC X4)) ho,REnts.range (h.bel (JC bw)) hx⟩) ?_;obtain ⟨w8,hw_,hb⟩:=QN w7;rw [← hw_];clear hw_;have hS:=hb;have pq:=hb;replace bw:=Ql bw hb;have zz8:=hb.size;clear hb;subst hsp_
       refine oY Z (fun G U=>(Qd Z)) Z<|oY Z (fun G U=>(Jk Z)) Z<|oY Z (fun G U=>(Jf (c:=true) Z (Z))) Z<|Q4 Z Z Z Z (fun G U=>(Qd Z)) Z<|Q4 Z Z Z Z (fun G U=>(Qd Z)) Z<|Q4 Z Z Z Z (fun G U=>(QA Z Z uz35 siz95 Z Qb)) Z<|Q4 Z Z Z Z (fun G U=>(Qk K1 Z)) Z<|Q4 Z Z Z Z (fun G U=>(JS Z uz9 Z (U.1 0 _ Z))) Z<|Q4 Z Z Z Z (fun G U=>(Qd Z)) Z<|Q4 Z Z Z Z (fun G U=>(Qd Z)) Z<|Q4 Z Z Z Z (fun G U=>(QA Z Z uz35 siz95 Z Qb)) Z<|Q4 Z Z Z Z (fun G U=>(Qk K1 Z)) Z<|Q4 Z Z Z Z (fun G U=>(JS Z uz9 Z (U.2 0 _ Z))) Z<|Q4 Z Z Z Z (fun G U=>(Qwj Z Z)) Z<|oY Z (fun G U=>(Qm Z Z)) Z<|oN<|nN<|Qx Z (fun h81=>?_) (fun h81=>?_)
       ·replace h81:=Qs h81
        have hgt:x.sum<o.sum:=by
         rcases Ui x.sum o.sum with q|q|q
         ·exact q
         ·exact absurd q.symm h66
         ·rw [bytesLess_eq] at h81; simp [q] at h81
        refine Qa<|sm Z Z<|sm Z Z<|sm Z Z<|st (QA Z Z uz35 siz95 Z Qb) Z<|st (Jw (cs:=Jh x) Z uz95 Z siz95 (REnts.range (h.bel bw) hx)) Z ?_
        replace hR:=hR.bel pq;replace hR7:=hR7.bel pq;clear pq;refine Zy Z uz35 inf95 Z Z QF QF Z (fun g87 w9 hR87 hg87 hb=>?_);replace bw:=Ql bw hb;replace hR:=hR.bel hb;replace hR7:=hR7.bel hb;have hz87:=hb.size;clear hb;refine Z4 Z Z uz35 inf95 Z QF hR7 (hR87.reads.src uz35 (Zb x)) (by simp only [maxLen]; omega) Qb Z (fun va w10 hRa hC hva=>?_);have hOa:∀ k,va.ownBlock=some k→wk.heap.size≤k:=JE hva hO7 Qb;replace hR:=hR.chg hC (fun k hk e=>by have:=h5k k hk; have:=hO7 k e; omega);replace bw:=KM bw hC (fun k hk=>by have:=hO7 k hk; omega);have hz206:=hC.size
        replace hRa:Row w10 95 4 va (N++[x]).length ((N++[x]).flatMap Jh):=by rw [List.length_append,List.flatMap_append]; exact hRa
        clear hC hva hR7
        refine sa Z Z<|Wn<|tN<|Qw<|sa Z Z<|Wn<|tN<|Qw ?_
        obtain ⟨na,hna⟩:∃ na,N++[x]=na:=⟨_,rfl⟩
        have hnl:na.length≤k+2:=by rw [← hna,List.length_append]; simp; have:=congrArg List.length (hm.2 rfl).1; rw [List.length_take] at this; omega
        have hnl3:na.length≤k+1:=by rw [← hna,List.length_append]; simp; have:=congrArg List.length (hm.2 rfl).1; rw [List.length_take] at this; omega
        rw [hna] at hRa
        refine sm Z Z<|sm Z Z<|sm Z Z<|st (QA Z Z uz35 siz95 Z Qb) Z<|st (Jw (cs:=Jh o) Z uz95 Z siz95 (REnts.range hR.reads ho)) Z<|Zy Z uz35 inf95 Z Z QF QF Z (fun g94 w11 hR94 hg94 hb=>?_)
        replace bw:=Ql bw hb;replace hR:=hR.bel hb;replace hRa:=hRa.bel hb;have hz94:=hb.size;clear hb;refine Z4 Z Z uz35 inf95 Z QF hRa (hR94.reads.src uz35 (Zb o)) (by simp only [maxLen]; omega) Qb Z (fun v7' w12 hR7' hC hvb=>?_);have hO7':∀ k,v7'.ownBlock=some k→wk.heap.size≤k:=JE hvb hOa Qb;replace hR:=hR.chg hC (fun k hk e=>by have:=h5k k hk; have:=hOa k e; omega);replace bw:=KM bw hC (fun k hk=>by have:=hOa k hk; omega);have hz226:=hC.size
        obtain ⟨N',hN'⟩:∃ N',na++[o]=N':=⟨_,rfl⟩
        have hNl':N'.length≤k+1+1:=by rw [← hN',List.length_append]; simp; omega
        replace hR7':Row w12 95 4 v7' N'.length (N'.flatMap Jh):=by rw [← hN',List.length_append,List.flatMap_append]; exact hR7'
        clear hC hvb
        refine sa Z Z<|Wn<|bN<|tN<|Qw ?_
        obtain ⟨d',hd'⟩:∃ d',d'=true:=⟨_,rfl⟩
        have hm':InsInv O x d' (k+1) N':=by rw [hd',← hN',← hna]; exact hm.put hI.up ho hgt
        refine sm Z Z<|st (Qn Z Z Qb) Z<|sa Z Z<|Wn<|tN ⟨_,_,?_,⟨k+1,d',N',v7',Z,Z,by omega,by omega,hm',hNl',hR,hR7',hO7',bw⟩,⟨Z,Z,Z,Z,by rw [hd']; rfl,Z,tvA⟩⟩
        omega
       ·replace h81:=Qs h81
        have hlt:o.sum<x.sum:=Classical.byContradiction fun hn=>by rw [bytesLess_eq] at h81; simp [hn,h66] at h81
        refine Qf<|tN<|Qw ?_
        replace hR:=hR.bel pq;replace hR7:=hR7.bel pq;clear pq
        obtain ⟨na,hna⟩:∃ na,N=na:=⟨_,rfl⟩
        obtain ⟨va,rfl⟩:∃ va,va=v7:=⟨_,rfl⟩
        have hRa:=hR7;have hOa:=hO7
        have hnl3:na.length≤k+1:=by rw [← hna]; exact hNl
        rw [hna] at hRa
        refine sm Z Z<|sm Z Z<|sm Z Z<|st (QA Z Z uz35 siz95 Z Qb) Z<|st (Jw (cs:=Jh o) Z uz95 Z siz95 (REnts.range hR.reads ho)) Z<|Zy Z uz35 inf95 Z Z QF QF Z (fun g94 w13 hR94 hg94 hb=>?_)
        replace bw:=Ql bw hb;replace hR:=hR.bel hb;replace hRa:=hRa.bel hb;have hz94:=hb.size;clear hb;refine Z4 Z Z uz35 inf95 Z QF hRa (hR94.reads.src uz35 (Zb o)) (by simp only [maxLen]; omega) Qb Z (fun v7' w14 hR7' hC hvb=>?_);have hO7':∀ k,v7'.ownBlock=some k→wk.heap.size≤k:=JE hvb hOa Qb;replace hR:=hR.chg hC (fun k hk e=>by have:=h5k k hk; have:=hOa k e; omega);replace bw:=KM bw hC (fun k hk=>by have:=hOa k hk; omega);have hz226:=hC.size
        obtain ⟨N',hN'⟩:∃ N',na++[o]=N':=⟨_,rfl⟩
        have hNl':N'.length≤k+1+1:=by rw [← hN',List.length_append]; simp; omega
        replace hR7':Row w14 95 4 v7' N'.length (N'.flatMap Jh):=by rw [← hN',List.length_append,List.flatMap_append]; exact hR7'
        clear hC hvb
        refine sa Z Z<|Wn<|bN<|tN<|Qw ?_
        obtain ⟨d',hd'⟩:∃ d',d'=false:=⟨_,rfl⟩
        have hm':InsInv O x d' (k+1) N':=by rw [hd',← hN',← hna]; exact hm.pass ho hlt
        refine sm Z Z<|st (Qn Z Z Qb) Z<|sa Z Z<|Wn<|tN ⟨_,_,?_,⟨k+1,d',N',v7',Z,Z,by omega,by omega,hm',hNl',hR,hR7',hO7',bw⟩,⟨Z,Z,Z,Z,by rw [hd']; rfl,Z,tvA⟩⟩
        omega
      ·refine QS (fun _=>True) [0,1,2,3,4,5,6,7,8,9,10,11,12,13,14] [Y,Y,Y,Y,Y,Y,Y,Y,Y,Y,Y,Y,Y,Y,Y] Qo Qo (trivial) ?_;obtain ⟨w15,hw_,hb⟩:=QN w7;rw [← hw_];clear hw_;have hS:True:=trivial;replace pq:=Ql pq hb;replace bw:=Ql bw hb;have zz15:=hb.size;clear hb
       obtain rfl:d=true:=by simpa using hsp_
       refine oY Z (fun G U=>(Qd Z)) Z<|oY Z (fun G U=>(Jk Z)) Z<|oY Z (fun G U=>(Jf (c:=false) Z (Z))) Z<|JA Z Z Z Z hS Z<|JA Z Z Z Z hS Z<|JA Z Z Z Z hS Z<|JA Z Z Z Z hS Z<|JA Z Z Z Z hS Z<|JA Z Z Z Z hS Z<|JA Z Z Z Z hS Z<|JA Z Z Z Z hS Z<|JA Z Z Z Z hS Z<|JA Z Z Z Z hS Z<|JA Z Z Z Z hS Z<|oY Z (fun G U=>(Qq Z Z)) Z<|oN<|nN<|QX Z (Z)<|Qf<|tN<|Qw ?_
       replace hR:=hR.bel pq;replace hR7:=hR7.bel pq;clear pq
       obtain ⟨na,hna⟩:∃ na,N=na:=⟨_,rfl⟩
       obtain ⟨va,rfl⟩:∃ va,va=v7:=⟨_,rfl⟩
       have hRa:=hR7;have hOa:=hO7
       have hnl3:na.length≤k+1:=by rw [← hna]; exact hNl
       rw [hna] at hRa
       refine sm Z Z<|sm Z Z<|sm Z Z<|st (QA Z Z uz35 siz95 Z Qb) Z<|st (Jw (cs:=Jh o) Z uz95 Z siz95 (REnts.range hR.reads ho)) Z<|Zy Z uz35 inf95 Z Z QF QF Z (fun g94 w16 hR94 hg94 hb=>?_)
       replace bw:=Ql bw hb;replace hR:=hR.bel hb;replace hRa:=hRa.bel hb;have hz94:=hb.size;clear hb;refine Z4 Z Z uz35 inf95 Z QF hRa (hR94.reads.src uz35 (Zb o)) (by simp only [maxLen]; omega) Qb Z (fun v7' w17 hR7' hC hvb=>?_);have hO7':∀ k,v7'.ownBlock=some k→wk.heap.size≤k:=JE hvb hOa Qb;replace hR:=hR.chg hC (fun k hk e=>by have:=h5k k hk; have:=hOa k e; omega);replace bw:=KM bw hC (fun k hk=>by have:=hOa k hk; omega);have hz226:=hC.size
       obtain ⟨N',hN'⟩:∃ N',na++[o]=N':=⟨_,rfl⟩
       have hNl':N'.length≤k+1+1:=by rw [← hN',List.length_append]; simp; omega
       replace hR7':Row w17 95 4 v7' N'.length (N'.flatMap Jh):=by rw [← hN',List.length_append,List.flatMap_append]; exact hR7'
       clear hC hvb
       refine sa Z Z<|Wn<|bN<|tN<|Qw ?_
       obtain ⟨d',hd'⟩:∃ d',d'=true:=⟨_,rfl⟩
       have hm':InsInv O x d' (k+1) N':=by rw [hd',← hN',← hna]; exact hm.keep ho
       refine sm Z Z<|st (Qn Z Z Qb) Z<|sa Z Z<|Wn<|tN ⟨_,_,?_,⟨k+1,d',N',v7',Z,Z,by omega,by omega,hm',hNl',hR,hR7',hO7',bw⟩,⟨Z,Z,Z,Z,by rw [hd']; rfl,Z,tvA⟩⟩
       omega
    ·replace h53:=Qs h53
     obtain rfl:k=O.length:=by omega
     refine QQ<|tE<|tE<|bH<|tN<|Qe<|Qa<|sm Z Z<|st (Jk Z) Z<|Wn<|tN<|Qx Z (fun h97=>?_) (fun h97=>?_)
     ·replace h97:=Qs h97;have hd0:d=false:=h97;subst hd0;have hfin:=hm.last hI.up
      refine Qw<|sm Z Z<|sm Z Z<|sm Z Z<|st (QA Z Z uz35 siz95 Z Qb) Z<|st (Jw (cs:=Jh x) Z uz95 Z siz95 (REnts.range (h.bel bw) hx)) Z<|Zy Z uz35 inf95 Z Z QF QF Z (fun g103 w18 hR103 hg103 hb=>?_)
      replace bw:=Ql bw hb;replace hR7:=hR7.bel hb;have hz103:=hb.size;clear hb;refine Z4 Z Z uz35 inf95 Z QF hR7 (hR103.reads.src uz35 (Zb x)) (by simp only [maxLen]; omega) Qb Z (fun vf w19 hRf hC hvb=>?_)
      have hOf:∀ k,vf.ownBlock=some k→w.heap.size≤k:=fun k hk=>by have:=JE hvb hO7 Qb k hk; omega
      replace bw:=KM bw hC (fun k hk=>by have:=hO7 k hk; omega)
      obtain ⟨O',hO'⟩:∃ O',N++[x]=O':=⟨_,rfl⟩
      rw [hO'] at hfin;have hI':=VP hI hx hfin
      replace hRf:Row w19 95 4 vf O'.length (O'.flatMap Jh):=by rw [← hO',List.length_append,List.flatMap_append]; exact hRf
      clear hC hvb
      refine sa Z Z<|Wn<|tN<|Qw<|sm Z Z<|sa Z Z<|Wn<|bN<|tN<|Qw<|sm Z Z<|st (Qn Z Z Qb) Z<|sa Z Z<|Wn<|tN ⟨_,_,?_,⟨i+1,O',vf,Z,Z,by omega,hI',hRf,hOf,bw⟩,⟨Z,Z,Z,tvA⟩⟩
      omega
     ·replace h97:=Qs h97
      have hd0:d=true:=by simpa using h97
      subst hd0
      obtain ⟨O',hO'⟩:∃ O',N=O':=⟨_,rfl⟩
      obtain ⟨vf,rfl⟩:∃ vf,vf=v7:=⟨_,rfl⟩
      have hI':=VP hI hx hm.done;rw [hO'] at hI';have hRf:=hR7;rw [hO'] at hRf
      have hOf:∀ k,vf.ownBlock=some k→w.heap.size≤k:=fun k hk=>by have:=hO7 k hk; omega
      refine Qf<|tN<|Qw<|sm Z Z<|sa Z Z<|Wn<|bN<|tN<|Qw<|sm Z Z<|st (Qn Z Z Qb) Z<|sa Z Z<|Wn<|tN ⟨_,_,?_,⟨i+1,O',vf,Z,Z,by omega,hI',hRf,hOf,bw⟩,⟨Z,Z,Z,tvA⟩⟩
      omega
   ·replace h47:=Qs h47
    obtain rfl:i=l.length:=by omega
    rw [List.take_length] at hI
    refine QQ<|tE<|tE<|bH<|tN<|Qa<|sm Z Z<|sa Z Z<|sa Z Z<|Wn<|tN<|Qg<|(J6 Z Z Z ?_).1
    rw [Vm hI.perm hI.up Qb hfit];exact ⟨_,Z,hR.reads,bw⟩
end
section
open Go.RowKit
theorem Qlj (l:List Ent) (x:Ent) (b:Nat):Y3 (l++[x]) b=Y3 l b+(if hd x≤b then 1 else 0):=by
 unfold Y3;rw [List.filter_append,List.length_append]
 congr 1
 by_cases h:hd x≤b
 ·rw [if_pos h]; simp [h]
 ·rw [if_neg h]; simp [h]
theorem sumHd (x:Ent):(x.sum.getD 0 0).toNat=hd x:=by
 unfold hd
 cases x.sum <;> rfl
theorem Qao (v:Value) (l:List Ent) (w:World) (h:REnts w v l) (h32:Yt l) (hfit:l.all Ze=true) (hl:l.length≤100000) :
  Calls Tryz.prog 110 #[v] w fun e w'=>e=.returned (Qv (ZH l))∧Below w.heap.size w w':=by
 obtain ⟨a,cp,rfl,hn,hcp⟩:=h.shape
 refine Qj (args:=[.slice a l.length cp]) 73 Tryz.func110 Z Z Z<|Qt [(0,.slice a l.length cp)] ?_ ⟨Z,tvA⟩
 have bw:=Below.refl w.heap.size w
 refine Qa<|sa Z Z<|Wn<|tN<|Qa<|sa Z Z<|Wn<|tN<|Qe<|Qa<|sa Z Z<|Wn<|tN<|Qp<|JG (fun nw1_ lw1_ w1=>∃ b:Nat,nw1_=256-b∧lw1_=([(0,.slice a l.length cp),(3,Qv (kindB++UF l b)),(4,.int .i64 b)]:Env)∧(b≤256)∧(Below w.heap.size w w1)) _ ⟨_,⟨0,Z,Z,by omega,bw⟩,⟨Z,Z,Z,tvA⟩⟩ ?_
 clear bw;rintro nw1_ lw1_ w1 ⟨b,rfl,rfl,hb256,bw⟩;have zz1:=bw.size
 refine Qe<|Qa<|sm Z Z<|st (QJ Z Z) Z<|Wn<|tN<|Qx Z (fun h9=>?_) (fun h9=>?_)
 ·replace h9:=Qs h9
  have hkl:(kindB++UF l b).length=4+4*b:=by rw [List.length_append,Ko]; rfl
  have hcl:=Qds l b
  refine Qf<|tN<|Qe<|Qp<|Qa<|sa Z Z<|Wn<|tN<|Qe<|Qa<|sa Z Z<|Wn<|tN<|Qp<|JG (fun nw2_ lw2_ w2=>∃ i:Nat,nw2_=l.length-i∧lw2_=([(0,.slice a l.length cp),(3,Qv (kindB++UF l b)),(4,.int .i64 b),(5,.int .i64 (Y3 (l.take i) b:Nat)),(6,.int .i64 i)]:Env)∧(i≤l.length)∧(Below w.heap.size w w2)) _ ⟨_,⟨0,Z,Z,by omega,bw⟩,⟨Z,Z,Z,Z,Z,tvA⟩⟩ ?_
  clear bw;rintro nw2_ lw2_ w2 ⟨i,rfl,rfl,hi,bw⟩;have zz2:=bw.size
  refine Qe<|Qa<|sm Z Z<|sm Z Z<|st (QT Z Z uz35) Z<|st (QJ Z Z) Z<|Wn<|tN<|Qx Z (fun h15=>?_) (fun h15=>?_)
  ·replace h15:=Qs h15
   obtain ⟨x,hx⟩:∃ x,l[i]?=some x:=⟨_,List.getElem?_eq_getElem Qb⟩
   obtain ⟨g1,o1,c',hv,hg1⟩:=(h.bel bw).some_ Qb;injection hv with e1 _ e3;subst e1 e3;have hxs:=h32 x (List.mem_of_getElem? hx);have hxd:=sumHd x;have hdl:=(x.sum.getD 0 0).toNat_lt;have hci0:Y3 (l.take i) b≤l.length:=Nat.le_trans (Qds _ _) (List.length_take_le' _ _)
   refine Qf<|tN<|Qe<|Qp<|Qa<|sm Z Z<|sm Z Z<|st (QA Z Z uz35 siz95 Z Qb) Z<|st (Qk K1 Z) Z<|st (JS Z uz9 Z (REnts.range (h.bel bw) hx 0 _ Z)) Z<|st (Ys (q:=0) Z Z uz9 Z Qb) Z<|st (QM Z uz5 uz3 (U8 Qb)) Z<|sm Z Z<|st (V7 Z Z) Z<|Wn<|tN<|Qx Z (fun h26=>?_) (fun h26=>?_)
   ·replace h26:=Qs h26
    have hci:Y3 (l.take (i+1)) b=Y3 (l.take i) b+1:=by rw [QK hx,Qlj,if_pos Qb]
    refine Qw<|sm Z Z<|st (Qn Z Z Qb) Z<|sa Z Z<|Wn<|bN<|tN<|Qw<|sm Z Z<|st (Qn Z Z Qb) Z<|sa Z Z<|Wn<|tN ⟨_,_,?_,⟨i+1,Z,Z,by omega,bw⟩,⟨Z,Z,Z,by rw [hci]; rfl,Z,tvA⟩⟩
    omega
   ·replace h26:=Qs h26
    have hci:Y3 (l.take (i+1)) b=Y3 (l.take i) b:=by rw [QK hx,Qlj,if_neg Qb,Nat.add_zero]
    refine Qf<|bN<|tN<|Qw<|sm Z Z<|st (Qn Z Z Qb) Z<|sa Z Z<|Wn<|tN ⟨_,_,?_,⟨i+1,Z,Z,by omega,bw⟩,⟨Z,Z,Z,by rw [hci]; rfl,Z,tvA⟩⟩
    omega
  ·replace h15:=Qs h15
   obtain rfl:i=l.length:=by omega
   rw [List.take_length]
   refine QQ<|tE<|tE<|bH<|tN<|Qw<|sm Z Z<|sm Z Z<|sc _ fz86 Z Qo Z Z (Q3 (YJ _ _ Qb Qb) fun w3 hb=>?_)
   replace bw:=Ql bw hb;have zz3:=hb.size;clear hb;refine st (JV Z Z (by rw [hkl,Q9]; omega)) Z ?_
   refine sa Z Z<|Wn<|bN<|tN<|Qw ?_
   rw [List.append_assoc kindB,← H1]
   refine sm Z Z<|st (Qn Z Z Qb) Z<|sa Z Z<|Wn<|tN ⟨_,_,?_,⟨b+1,Z,Z,by omega,bw⟩,⟨Z,Z,Z,tvA⟩⟩
   omega
 ·replace h9:=Qs h9
  obtain rfl:b=256:=by omega
  rw [show kindB++UF l 256=Xb l from rfl]
  refine QQ<|tE<|tE<|bH<|tN<|Qe<|Qa<|sa Z Z<|Wn<|tN<|Qp<|JG (fun nw4_ lw4_ w4=>∃ j:Nat,nw4_=l.length-j∧lw4_=([(0,.slice a l.length cp),(3,Qv (Xb l++(l.take j).flatMap Js)),(7,.int .i64 j)]:Env)∧(j≤l.length)∧(Below w.heap.size w w4)) _ ⟨_,⟨0,Z,Z,by omega,bw⟩,⟨Z,by rw [List.take_zero,List.flatMap_nil,List.append_nil]; rfl,Z,tvA⟩⟩ ?_
  clear bw;rintro nw4_ lw4_ w4 ⟨j,rfl,rfl,hj,bw⟩;have zz4:=bw.size
  refine Qe<|Qa<|sm Z Z<|sm Z Z<|st (QT Z Z uz35) Z<|st (QJ Z Z) Z<|Wn<|tN<|Qx Z (fun h36=>?_) (fun h36=>?_)
  ·replace h36:=Qs h36
   obtain ⟨x,hx⟩:∃ x,l[j]?=some x:=⟨_,List.getElem?_eq_getElem Qb⟩
   obtain ⟨g1,o1,c',hv,hg1⟩:=(h.bel bw).some_ Qb;injection hv with e1 _ e3;subst e1 e3;have hxs:=h32 x (List.mem_of_getElem? hx);have hxf:=List.all_eq_true.1 hfit x (List.mem_of_getElem? hx);obtain ⟨⟨p1,p2⟩,⟨q1,q2⟩,⟨r1,r2⟩⟩:=Qvj.1 hxf;have hbl:=VX h32 j hj
   refine Qf<|tN<|Qe<|Qp<|Qan (fun G=>G.rangeAt g1 (o1+j*4) (Jh x)) [0,1,2,3,4,5,6,7,8,9,10,11,14,15,16,17,18,21,22,23,24,25,12,13,19,20,26,27,28] [Y,Y,Y,Y,Y,Y,Y,Y,Y,Y,Y,Y,Y,Y,Y,Y,Y,Y,Y,Y,Y,Y,false,Y,false,Y,false,Y,Y] Qo Qo (REnts.range (h.bel (JC bw)) hx) ?_
   obtain ⟨w5,hw_,hb⟩:=QN w4;rw [← hw_];clear hw_;have hS:=hb;replace bw:=Ql bw hb;have zz5:=hb.size;clear hb
   refine oY Z (fun G U=>(Qd Z)) Z<|oY Z (fun G U=>(Qd Z)) Z<|oY Z (fun G U=>(Qd Z)) Z<|oY Z (fun G U=>(QA Z Z uz35 siz95 Z Qb)) Z<|oY Z (fun G U=>(Qk K1 Z)) Z<|oY Z (fun G U=>(JS Z uz9 Z (U 0 _ Z))) Z<|oY Z (fun G U=>(JV Z Z (by rw [hbl,hxs]; omega))) Z ?_
   refine oY Z (fun G U=>(Qd Z)) Z<|oY Z (fun G U=>(Qd Z)) Z<|oY Z (fun G U=>(QA Z Z uz35 siz95 Z Qb)) Z<|oY Z (fun G U=>(Qk Qnu Z)) Z<|oY Z (fun G U=>(JS Z uz3 Z (U 1 _ Z))) Z<|oY Z (fun G U=>(Qd Z)) Z<|oY Z (fun G U=>(Qd Z)) Z<|oY Z (fun G U=>(QA Z Z uz35 siz95 Z Qb)) Z<|oY Z (fun G U=>(Qk Qdh Z)) Z<|oY Z (fun G U=>(JS Z uz3 Z (U 2 _ Z))) Z<|oY Z (fun G U=>(Qd Z)) Z<|oY Z (fun G U=>(Qd Z)) Z<|oY Z (fun G U=>(QA Z Z uz35 siz95 Z Qb)) Z<|oY Z (fun G U=>(Qk Qhl Z)) Z<|oY Z (fun G U=>(JS Z uz3 Z (U 3 _ Z))) Z<|oL Z (fun Q_ hQ_ hP_=>(sc _ fz86 Z Qo Z Z (Q3 (YJ x.pack _ Qb Qb) fun w6 hb=>?_)))
   replace bw:=Ql bw hb;have zz6:=hb.size;clear hb
   refine Wn<|hQ_ _ _ (REnts.range (h.bel bw) hx) ?_
   clear hQ_ hP_ Q_;refine oY Z (fun G U=>(JV Z Z (by rw [List.length_append,hbl,hxs,Q9]; omega))) Z ?_;refine oL Z (fun Q_ hQ_ hP_=>(sc _ fz86 Z Qo Z Z (Q3 (YJ x.pos _ Qb Qb) fun w7 hb=>?_)));replace bw:=Ql bw hb;have zz7:=hb.size;clear hb
   refine Wn<|hQ_ _ _ (REnts.range (h.bel bw) hx) ?_
   clear hQ_ hP_ Q_;refine oY Z (fun G U=>(JV Z Z (by rw [List.length_append,List.length_append,hbl,hxs,Q9,Q9]; omega))) Z ?_;refine oL Z (fun Q_ hQ_ hP_=>(sc _ fz86 Z Qo Z Z (Q3 (YJ x.len _ Qb Qb) fun w8 hb=>?_)));replace bw:=Ql bw hb;have zz8:=hb.size;clear hb
   refine Wn<|hQ_ _ _ (REnts.range (h.bel bw) hx) ?_
   clear hQ_ hP_ Q_;refine oY Z (fun G U=>(JV Z Z (by rw [List.length_append,List.length_append,List.length_append,hbl,hxs,Q9,Q9,Q9]; omega))) Z ?_
   refine oY Z (fun G U=>(Qy Z)) Z<|oN<|nN<|bN<|tN<|Qw ?_
   rw [show Xb l++(l.take j).flatMap Js++x.sum++JR x.pack++JR x.pos++JR x.len=Xb l++(l.take (j+1)).flatMap Js by rw [QK hx,List.flatMap_append]; simp [Js]]
   refine sm Z Z<|st (Qn Z Z Qb) Z<|sa Z Z<|Wn<|tN ⟨_,_,?_,⟨j+1,Z,Z,by omega,bw⟩,⟨Z,Z,Z,tvA⟩⟩
   omega
  ·replace h36:=Qs h36
   obtain rfl:j=l.length:=by omega
   have hbl:=YH h32;rw [List.take_length,show Xb l++l.flatMap Js=Kg l from rfl];have hcc:=(Crc.crc (Kg l)).toNat_lt
   refine QQ<|tE<|tE<|bH<|tN<|Qa<|sm Z Z<|sm Z Z<|sc _ fz129 Z Qo Z Z<|(KV (Kg l) _ Qb).mono ?_
   rintro e_ w_ ⟨rfl,rfl⟩
   refine cR<|st (QM (z:=((Crc.crc (Kg l)).toNat:Int)) Z uz143 uz3 (U8 Qb)) Z<|sc _ fz86 Z Qo Z Z (Q3 (YJ _ _ Qb Qb) fun w9 hb=>?_)
   replace bw:=Ql bw hb;have zz9:=hb.size;clear hb;refine st (JV Z Z (by rw [hbl,Q9]; omega)) Z ?_
   refine sa Z Z<|Wn<|tN<|Qg ?_
   exact (rT Z Z ⟨Z,bw⟩).1
section
variable {P:Program} {l:Env} {w:World} {ty t:TypeId} {x:Operand} {k k':IntKind} {m n:Int}
theorem Qqj {s u:List UInt8} {x1 x2:Operand} {i j:Nat} (he:(s.take j).drop i=u) (hx:ev l x=some (Qv s)) (h1:ev l x1=some (.int k m)) (h2:ev l x2=some (.int k' n)) (hu:P.underlying t=some .string) (hm:m=(i:Int)) (hn:n=(j:Int)) (hi:i≤j) (hj:j≤s.length):X P l (.slice t x (some x1) (some x2) none) ty w (Qv u) w:=he▸Qiq hx h1 h2 hu hm hn hi hj
end
theorem dec_12' {s:List UInt8} (h:J5 s=0) (h2:upB (lE s)=true) (h3:ZH (lE s)≠s):K3 s=([],12):=by
 unfold K3;rw [if_neg (by rw [h]; simp),if_neg (by rw [h2]; simp),if_neg h3]
theorem dec_0' {s:List UInt8} (h:J5 s=0) (h2:upB (lE s)=true) (h3:ZH (lE s)=s):K3 s=(lE s,0):=by
 unfold K3;rw [if_neg (by rw [h]; simp),if_neg (by rw [h2]; simp),if_pos h3]
theorem Qlx (s:List UInt8) (w:World) (hs:s.length<1000000):Calls Tryz.prog 113 #[Qv s] w (RIdx w (K3 s)):=by
 have hnl:=HM (s.drop 1024)
 obtain ⟨c,hc⟩:∃ c,J5 s=c:=⟨_,rfl⟩
 have hc':=hc;unfold J5 at hc
 have herr:c≠0→K3 s=([],c):=fun h=>by rw [← hc'] at h ⊢; exact Qfu h
 refine Qj (args:=[Qv s]) 93 Tryz.func113 Z Z Z<|Qt [(0,Qv s)] ?_ ⟨Z,tvA⟩
 have bw:=Below.refl w.heap.size w
 refine Qa<|sa Z Z<|sa Z Z<|Wn<|tN<|Qe<|Qa<|sm Z Z<|st (QP Z Z uz9) Z<|st (QJ Z Z) Z<|Wn<|tN<|Qx Z (fun h10=>?_) (fun h10=>?_)
 ·replace h10:=Qs h10
  refine Qa<|sa Z Z<|sa Z Z<|Wn<|tN<|Qg<|tR ?_
  rw [if_pos Qb] at hc;exact (J6 Z Z Z (Zu (by rw [herr Qb,← hc]) bw)).1
 ·replace h10:=Qs h10
  refine Qf<|tN<|Qe<|Qa<|sm Z Z<|st (KQ (j:=4) Z Z uz9 Z Qb) Z<|st (Y7 (b:=kindB) Z Z) Z<|Wn<|tN<|Qx Z (fun h13=>?_) (fun h13=>?_)
  ·replace h13:=Qs h13
   refine Qa<|sa Z Z<|sa Z Z<|Wn<|tN<|Qg<|tR ?_
   rw [if_neg Qb,if_pos h13] at hc;exact (J6 Z Z Z (Zu (by rw [herr Qb,← hc]) bw)).1
  ·replace h13:=Qs h13;rw [if_neg Qb,if_neg h13] at hc
   refine Qf<|tN<|Qa<|sm Z Z<|sc _ fz152 Z Qo Z Z (Q3 (Qeg s 1024 _ Qb Qb) fun w1 hb=>?_)
   replace bw:=Ql bw hb;have zz1:=hb.size;clear hb
   refine sa Z Z<|Wn<|tN<|Qe<|Qa<|sm Z Z<|st (Jg Z Z) Z<|Wn<|tN<|Qx Z (fun h17=>?_) (fun h17=>?_)
   ·replace h17:=Qs h17
    refine Qa<|sa Z Z<|sa Z Z<|Wn<|tN<|Qg<|tR ?_
    rw [if_pos Qb] at hc;exact (J6 Z Z Z (Zu (by rw [herr Qb,← hc]) bw)).1
   ·replace h17:=Qs h17
    refine Qf<|tN<|Qe<|Qa<|sm Z Z<|st (QP Z Z uz9) Z<|sm Z Z<|st (Kl Z Z Qb) Z<|st (Qn Z Z Qb) Z<|st (QJ Z Z) Z<|Wn<|tN<|Qx Z (fun h23=>?_) (fun h23=>?_)
    ·replace h23:=Qs h23
     refine Qa<|sa Z Z<|sa Z Z<|Wn<|tN<|Qg<|tR ?_
     rw [if_neg Qb,if_pos Qb] at hc;exact (J6 Z Z Z (Zu (by rw [herr Qb,← hc]) bw)).1
    ·replace h23:=Qs h23
     refine Qf<|tN<|Qe<|Qa<|sm Z Z<|st (QP Z Z uz9) Z<|sm Z Z<|st (Kl Z Z Qb) Z<|st (Qn Z Z Qb) Z<|st (Jg Z Z) Z<|Wn<|tN<|Qx Z (fun h29=>?_) (fun h29=>?_)
     ·replace h29:=Qs h29
      refine Qa<|sa Z Z<|sa Z Z<|Wn<|tN<|Qg<|tR ?_
      rw [if_neg Qb,if_neg Qb,if_pos Qb] at hc;exact (J6 Z Z Z (Zu (by rw [herr Qb,← hc]) bw)).1
     ·replace h29:=Qs h29;rw [if_neg Qb,if_neg Qb,if_neg Qb] at hc
      have hlen:s.length=1032+44*num (s.drop 1024):=by omega
      refine Qf<|tN<|Qe<|QS (fun _=>True) [0,1,2,3,5,6,7,8,9,4,10,11,12] [Y,Y,Y,Y,Y,Y,Y,Y,Y,false,false,Y,Y] Qo Qo (trivial) ?_
      obtain ⟨w2,hw_,hb⟩:=QN w1;rw [← hw_];clear hw_;have hS:True:=trivial;replace bw:=Ql bw hb;have zz2:=hb.size;clear hb
      refine oY Z (fun G U=>(Qd Z)) Z<|oY Z (fun G U=>(Qd Z)) Z<|oY Z (fun G U=>(QP Z Z uz9)) Z<|oY Z (fun G U=>(V5 Z Z (show IntKind.i64.wrap ((s.length:Int)-4)=((s.length-4:Nat):Int) by rw [U8 Qb]; omega))) Z ?_
      refine oY Z (fun G U=>(Qd Z)) Z<|oY Z (fun G U=>(Qd Z)) Z<|oY Z (fun G U=>(QP Z Z uz9)) Z<|oY Z (fun G U=>(V5 Z Z (show IntKind.i64.wrap ((s.length:Int)-4)=((s.length-4:Nat):Int) by rw [U8 Qb]; omega))) Z ?_
      refine oY Z (fun G U=>(KQ Z Z uz9 Z Qb)) Z<|oL Z (fun Q_ hQ_ hP_=>(sc _ fz152 Z Qo Z Z (Q3 (Qeg s (s.length-4) _ Qb Qb) fun w3 hb=>?_)))
      replace bw:=Ql bw hb;have zz3:=hb.size;clear hb
      refine Wn<|hQ_ _ _ trivial ?_
      clear hQ_ hP_ Q_;refine oL Z (fun Q_ hQ_ hP_=>(sc _ fz129 Z Qo Z Z ((KV (s.take (s.length-4)) _ (by rw [List.length_take]; omega)).mono ?_)));rintro e_ w_ ⟨rfl,rfl⟩
      refine cR<|Wn<|hQ_ _ _ trivial ?_
      clear hQ_ hP_ Q_;refine oY Z (fun G U=>(QM (z:=((Crc.crc (s.take (s.length-4))).toNat:Int)) Z uz143 uz3 (U8 (by have:=(Crc.crc (s.take (s.length-4))).toNat_lt; omega)))) Z ?_
      refine oY Z (fun G U=>(QC Z Z)) Z<|oN<|nN<|Qx Z (fun h42=>?_) (fun h42=>?_)
      ·replace h42:=Qs h42
       refine Qa<|sa Z Z<|sa Z Z<|Wn<|tN<|Qg<|tR ?_
       rw [if_pos Qb] at hc;exact (J6 Z Z Z (Zu (by rw [herr Qb,← hc]) bw)).1
      ·replace h42:=Qs h42;rw [if_neg Qb] at hc
       have h0:J5 s=0:=by rw [hc',← hc]
       obtain ⟨n,hn⟩:∃ n,num (s.drop 1024)=n:=⟨_,rfl⟩
       obtain ⟨L,hL⟩:∃ L,lE s=L:=⟨_,rfl⟩
       have hLl:L.length=n:=by rw [← hL,← hn]; exact entsOf_length _ _
       have hL32:Yt L:=by rw [← hL]; exact Qnj h0
       have hLf:L.all Ze=true:=by rw [← hL]; exact Qoc _ _
       rw [hn];rw [hn] at hlen
       refine Qf<|tN<|Qa<|sa Z Z<|Wn<|tN<|Qe<|Qa<|sa Z Z<|Wn<|tN<|Qp<|JG (fun nw4_ lw4_ w4=>∃ j:Nat,∃ v5:Value,nw4_=n-j∧lw4_=([(0,Qv s),(4,.int .i64 n),(5,v5),(6,.int .i64 j)]:Env)∧(j≤n)∧(Row w4 95 4 v5 (L.take j).length ((L.take j).flatMap Jh))∧(∀ k,v5.ownBlock=some k→w.heap.size≤k)∧(upB (L.take j)=true)∧(Below w.heap.size w w4)) _ ⟨_,⟨0,.slice none 0 0,Z,Z,by omega,Row.nil _ _ _,(fun k hk=>by simp [Value.ownBlock] at hk),Z,bw⟩,⟨Z,Z,Z,Z,tvA⟩⟩ ?_
       clear bw;rintro nw4_ lw4_ w4 ⟨j,v5,rfl,rfl,hj,hR,hO,hso,bw⟩;have zz4:=bw.size
       refine Qe<|Qa<|sm Z Z<|sm Z Z<|st (QJ Z Z) Z<|Wn<|tN<|Qx Z (fun h45=>?_) (fun h45=>?_)
       ·replace h45:=Qs h45
        obtain ⟨x,hx⟩:∃ x,L[j]?=some x:=⟨_,List.getElem?_eq_getElem Qb⟩
        have hx':=entsOf_at (num (s.drop 1024)) (s.drop 1028) j Qb;rw [show entsOf (num (s.drop 1024)) (s.drop 1028)=L from hL,hx] at hx';injection hx' with hx';have hxs:=hL32 x (List.mem_of_getElem? hx);simp only [List.drop_drop] at hx'
        have hx1:x.sum=(s.drop (1028+44*j)).take 32:=by rw [hx']
        have hx2:x=⟨x.sum,num (s.drop (1028+44*j+32)),num (s.drop (1028+44*j+36)),num (s.drop (1028+44*j+40))⟩:=by rw [hx1]; simpa [Nat.add_assoc] using hx'
        have hct:(s.take (1028+44*j+32)).drop (1028+44*j)=x.sum:=by rw [List.drop_take,hx1]; congr 1; omega
        have htl:(L.take j).length=j:=by rw [List.length_take]; omega
        refine Qf<|tN<|Qe<|Qp<|Qa<|sm Z Z<|st (Kl Z Z Qb) Z<|st (Yx Z Z (show IntKind.i64.wrap (1028+44*(j:Int))=((1028+44*j:Nat):Int) by rw [U8 Qb]; omega)) Z ?_
        refine sa Z Z<|Wn<|tN<|QS (fun _=>True) [0,1,2,3,4,5,6,7,8,10,11,12,14,15,16,9,13,17,18,19,20,21] [Y,Y,Y,Y,Y,Y,Y,Y,Y,Y,Y,Y,Y,Y,Y,false,false,false,Y,false,false,Y] Qo Qo (trivial) ?_
        obtain ⟨w5,hw_,hb⟩:=QN w4;rw [← hw_];clear hw_;have hS:True:=trivial;have pq:=hb;replace bw:=Ql bw hb;have zz5:=hb.size;clear hb
        refine oY Z (fun G U=>(Qd Z)) Z<|oY Z (fun G U=>(Qd Z)) Z<|oY Z (fun G U=>(Qd Z)) Z<|oY Z (fun G U=>(Qd Z)) Z<|oY Z (fun G U=>(Yx Z Z (show IntKind.i64.wrap (((1028+44*j:Nat):Int)+32)=((1028+44*j+32:Nat):Int) by rw [U8 Qb]; omega))) Z ?_
        refine oY Z (fun G U=>(Qqj hct Z Z Z uz9 Z Z Qb Qb)) Z<|oY Z (fun G U=>(Qd Z)) Z<|oY Z (fun G U=>(Qd Z)) Z<|oY Z (fun G U=>(Yx Z Z (show IntKind.i64.wrap (((1028+44*j:Nat):Int)+32)=((1028+44*j+32:Nat):Int) by rw [U8 Qb]; omega))) Z ?_
        refine oY Z (fun G U=>(Qd Z)) Z<|oY Z (fun G U=>(Qd Z)) Z<|oY Z (fun G U=>(Yx Z Z (show IntKind.i64.wrap (((1028+44*j:Nat):Int)+36)=((1028+44*j+36:Nat):Int) by rw [U8 Qb]; omega))) Z ?_
        refine oY Z (fun G U=>(Qd Z)) Z<|oY Z (fun G U=>(Qd Z)) Z<|oY Z (fun G U=>(Yx Z Z (show IntKind.i64.wrap (((1028+44*j:Nat):Int)+40)=((1028+44*j+40:Nat):Int) by rw [U8 Qb]; omega))) Z ?_
        refine oL Z (fun Q_ hQ_ hP_=>(sc _ fz152 Z Qo Z Z (Q3 (Qeg s (1028+44*j+32) _ Qb Qb) fun w6 hb=>?_)));replace pq:=Ql pq hb;replace bw:=Ql bw hb;have zz6:=hb.size;clear hb
        refine Wn<|hQ_ _ _ trivial ?_
        clear hQ_ hP_ Q_;refine oL Z (fun Q_ hQ_ hP_=>(sc _ fz152 Z Qo Z Z (Q3 (Qeg s (1028+44*j+36) _ Qb Qb) fun w7 hb=>?_)));replace pq:=Ql pq hb;replace bw:=Ql bw hb;have zz7:=hb.size;clear hb
        refine Wn<|hQ_ _ _ trivial ?_
        clear hQ_ hP_ Q_;refine oL Z (fun Q_ hQ_ hP_=>(sc _ fz152 Z Qo Z Z (Q3 (Qeg s (1028+44*j+40) _ Qb Qb) fun w8 hb=>?_)));replace pq:=Ql pq hb;replace bw:=Ql bw hb;have zz8:=hb.size;clear hb
        refine Wn<|hQ_ _ _ trivial ?_
        clear hQ_ hP_ Q_;refine oY Z (fun G U=>(Ja Z (brec _ _ _ _ _))) Z ?_;rw [← hx2];refine oL Z (fun Q_ hQ_ hP_=>(Zy Z uz35 inf95 Z Z QF QF Z (fun g70 w9 hR70 hg70 hb=>?_)));replace pq:=Ql pq hb;replace bw:=Ql bw hb;have zz9:=hb.size;clear hb;have hl70:=hR70.blt QF
        refine Wn<|hQ_ _ _ trivial ?_
        clear hQ_ hP_ Q_;refine oL Z (fun Q_ hQ_ hP_=>?_);replace hR:=hR.bel pq;clear pq;refine Z4 Z Z uz35 inf95 Z QF hR (hR70.reads.src uz35 (Zb x)) (by simp only [maxLen]; omega) Qb Z (fun v5' w10 hR' hC hv'=>?_);replace bw:=KM bw hC hO;have hO':=JE hv' hO Qb
        replace hR':Row w10 95 4 v5' (L.take (j+1)).length ((L.take (j+1)).flatMap Jh):=by rw [QK hx,List.length_append,List.flatMap_append]; exact hR'
        obtain ⟨a5,c5,rfl,hn5,hc5⟩:=hR'.shape;clear hC hv'
        refine Wn<|hQ_ _ _ trivial ?_
        clear hQ_ hP_ Q_
        refine oY Z (fun G U=>(Qy Z)) Z<|oN<|nN ?_
        by_cases hsp_:0<j
        ·obtain ⟨y,hy⟩:∃ y,L[j-1]?=some y:=⟨_,List.getElem?_eq_getElem Qb⟩
         have hy':L[j-1+1]?=some x:=by rw [show j-1+1=j by omega]; exact hx
         have htl1:(L.take (j+1)).length=j+1:=by rw [List.length_take]; omega
         have hRe:REnts w10 (.slice a5 (L.take (j+1)).length c5) (L.take (j+1)):=hR'.reads;obtain ⟨g1,o1,c',hv,hg1⟩:=hRe.some_ Qb;injection hv with e1 _ e3;subst e1 e3
         have hyt:(L.take (j+1))[j-1]?=some y:=by rw [List.getElem?_take_of_lt Qb]; exact hy
         have hxt:(L.take (j+1))[j]?=some x:=by rw [List.getElem?_take_of_lt Qb]; exact hx
         refine QS (fun G=>G.rangeAt g1 (o1+(j-1)*4) (Jh y)∧G.rangeAt g1 (o1+j*4) (Jh x)) [0,1,2,3,4,5,6,7,8,9,10,11,12,13,14,15] [Y,Y,Y,Y,Y,Y,Y,Y,Y,Y,Y,Y,Y,Y,Y,Y] Qo Qo (⟨REnts.range (hRe.bel (JC X4)) hyt,REnts.range (hRe.bel (JC X4)) hxt⟩) ?_;obtain ⟨w11,hw_,hb⟩:=QN w10;rw [← hw_];clear hw_;have hS:=hb;have pq:=hb;replace bw:=Ql bw hb;have zz11:=hb.size;clear hb
         refine oY Z (fun G U=>(Qd Z)) Z<|oY Z (fun G U=>(Jg Z Z)) Z<|oY Z (fun G U=>(Jf (c:=true) Z (decide_eq_true Qb))) Z<|Q4 Z Z Z Z (fun G U=>(Qd Z)) Z<|Q4 Z Z Z Z (fun G U=>(Qd Z)) Z<|Q4 Z Z Z Z (fun G U=>(V5 Z Z (show IntKind.i64.wrap ((j:Int)-1)=((j-1:Nat):Int) by rw [U8 Qb]; omega))) Z ?_
         refine Q4 Z Z Z Z (fun G U=>(QA Z Z uz35 siz95 Z Qb)) Z<|Q4 Z Z Z Z (fun G U=>(Qk K1 Z)) Z<|Q4 Z Z Z Z (fun G U=>(JS Z uz9 Z (U.1 0 _ Z))) Z<|Q4 Z Z Z Z (fun G U=>(Qd Z)) Z<|Q4 Z Z Z Z (fun G U=>(Qd Z)) Z<|Q4 Z Z Z Z (fun G U=>(QA Z Z uz35 siz95 Z Qb)) Z<|Q4 Z Z Z Z (fun G U=>(Qk K1 Z)) Z<|Q4 Z Z Z Z (fun G U=>(JS Z uz9 Z (U.2 0 _ Z))) Z<|Q4 Z Z Z Z (fun G U=>(X.geS Z Z)) Z<|oY Z (fun G U=>(Qm Z Z)) Z<|oN<|nN<|Qx Z (fun h87=>?_) (fun h87=>?_)
         ·replace h87:=Qs h87
          refine Qa<|sa Z Z<|sa Z Z<|Wn<|tN ?_
          replace hR':=hR'.bel pq;clear pq
          refine Qg<|bR<|tR<|tR<|bR<|tR ?_
          have hnlt:¬y.sum<x.sum:=fun hlt=>by rw [bytesLess_eq] at h87; simp [hlt] at h87
          exact (J6 Z Z Z (Zu (Qvt h0 (by rw [hL]; exact Qto hy hy' hnlt)) bw)).1
         ·replace h87:=Qs h87
          refine Qf<|bN<|tN<|Qw ?_
          have hlt':y.sum<x.sum:=Classical.byContradiction fun hn'=>by rw [bytesLess_eq] at h87; simp [hn'] at h87
          have hso':upB (L.take (j+1))=true:=by
           have:=Qbx (i:=j-1) (by rw [show j-1+1=j by omega]; exact hso) hy hy' hlt'
           rwa [show j-1+2=j+1 by omega] at this
          refine sm Z Z<|st (Qn Z Z Qb) Z<|sa Z Z<|Wn ?_
          replace hR':=hR'.bel pq;clear pq;refine tN ⟨_,_,?_,⟨j+1,_,Z,Z,by omega,hR',hO',hso',bw⟩,⟨Z,Z,Z,Z,tvA⟩⟩
          omega
        ·refine QS (fun _=>True) [0,1,2,3,4,5,6,7,8,9,10,11,12,13,14,15] [Y,Y,Y,Y,Y,Y,Y,Y,Y,Y,Y,Y,Y,Y,Y,Y] Qo Qo (trivial) ?_;obtain ⟨w12,hw_,hb⟩:=QN w10;rw [← hw_];clear hw_;have hS:True:=trivial;have pq:=hb;replace bw:=Ql bw hb;have zz12:=hb.size;clear hb
         refine oY Z (fun G U=>(Qd Z)) Z<|oY Z (fun G U=>(Jg Z Z)) Z<|oY Z (fun G U=>(Jf (c:=false) Z (decide_eq_false Qb))) Z<|JA Z Z Z Z hS Z<|JA Z Z Z Z hS Z<|JA Z Z Z Z hS Z<|JA Z Z Z Z hS Z<|JA Z Z Z Z hS Z<|JA Z Z Z Z hS Z<|JA Z Z Z Z hS Z<|JA Z Z Z Z hS Z<|JA Z Z Z Z hS Z<|JA Z Z Z Z hS Z<|JA Z Z Z Z hS Z<|JA Z Z Z Z hS Z<|oY Z (fun G U=>(Qq Z Z)) Z<|oN<|nN<|QX Z (Z)<|Qf<|bN<|tN<|Qw ?_
         have hso':upB (L.take (j+1))=true:=by
          obtain rfl:j=0:=by omega
          cases L with
          | nil=>rfl
          | cons c L=>rfl
         refine sm Z Z<|st (Qn Z Z Qb) Z<|sa Z Z<|Wn ?_
         replace hR':=hR'.bel pq;clear pq;refine tN ⟨_,_,?_,⟨j+1,_,Z,Z,by omega,hR',hO',hso',bw⟩,⟨Z,Z,Z,Z,tvA⟩⟩
         omega
       ·replace h45:=Qs h45
        obtain rfl:n=j:=by omega
        rw [List.take_of_length_le Qb] at hso hR
        refine QQ<|tE<|tE<|bH<|tN<|Qe<|Qa<|sm Z Z<|sc _ Tryz.func110 Z Qo Z Z (Q3 (Qao v5 L _ hR.reads hL32 hLf Qb) fun w13 hb=>?_)
        have pq:=hb;replace bw:=Ql bw hb;have zz13:=hb.size;clear hb
        refine sm Z Z<|st (Y7 Z Z) Z<|Wn<|tN<|Qx Z (fun h91=>?_) (fun h91=>?_)
        ·replace h91:=Qs h91
         refine Qa<|sa Z Z<|sa Z Z<|Wn<|tN ?_
         replace hR:=hR.bel pq;clear pq
         refine Qg<|tR ?_
         exact (J6 Z Z Z (Zu (dec_12' h0 (by rw [hL]; exact hso) (by rw [hL]; exact h91)) bw)).1
        ·replace h91:=Qs h91
         refine Qf<|tN<|Qa<|sm Z Z<|sa Z Z<|sa Z Z<|Wn<|tN ?_
         replace hR:=hR.bel pq;clear pq
         refine Qg<|(J6 Z Z Z ?_).1
         rw [dec_0' h0 (by rw [hL]; exact hso) (by rw [hL]; exact Classical.not_not.1 h91),hL];exact ⟨_,Z,hR.reads,bw⟩
end
section
open Go.RowKit Sha
theorem VG (x:UInt32) (n:Int) (w:World) (h0:1≤n) (h1:n≤31) :
  Calls Tryz.prog 123 #[.int .u32 x.toNat,.int .u64 n] w fun e w'=>e=.returned (.int .u32 (JY x (UInt32.ofNat n.toNat)).toNat)∧w=w':=by
 have hx:=Qnh x
 have hx0:(0:Int)≤x.toNat:=by omega
 go_enter Tryz.func123,Tryz.ntmps123
 go_wp2
 go_ret
 obtain ⟨m,rfl⟩:=Int.eq_ofNat_of_zero_le (by omega:0≤n);refine ⟨?_,Z⟩
 have e1:(32-(m:Int)).toNat=32-m:=by omega
 have key:bits BinOp.or IntKind.u32 ((x.toNat:Int) / 2 ^ m) ((x.toNat:Int)*2 ^ (32-m)%4294967296)=((JY x (UInt32.ofNat m)).toNat:Int):=by
  rw [K5 x m Qb,Qbh x (32-m) Qb,Qgx]
  show ((x >>> UInt32.ofNat m ||| x <<< UInt32.ofNat (32-m)).toNat:Int)=((x >>> UInt32.ofNat m ||| x <<< (32-UInt32.ofNat m)).toNat:Int)
  congr 4
  apply UInt32.toNat.inj
  rw [UInt32.toNat_sub_of_le,UInt32.toNat_ofNat_of_lt' (by simp [UInt32.size]; omega),UInt32.toNat_ofNat_of_lt' (by simp [UInt32.size]; omega)]
  ·rfl
  ·rw [UInt32.le_iff_toNat_le,UInt32.toNat_ofNat_of_lt' (by simp [UInt32.size]; omega)]; simp; omega
 simp only [Int.toNat_natCast,e1];rw [← key]
 rfl
theorem Qfr (l:List UInt32) (x:UInt32) (j t:Nat) (h:l.length=t):(if j=t then x else l.getD j 0)=(l++[x]).getD j 0:=by
 subst h
 by_cases hj:j=l.length
 ·subst hj; simp
 ·rw [if_neg hj]
  rcases Nat.lt_or_ge j l.length with h1|h1
  ·simp [List.getD,List.getElem?_append_left h1]
  ·simp [List.getD,List.getElem?_eq_none h1,List.getElem?_eq_none (l:=l++[x]) (i:=j) (by simp; omega)]
theorem be_eq (x0 x1 x2 x3:UInt8):bits BinOp.or IntKind.u32
           (bits BinOp.or IntKind.u32
            (bits BinOp.or IntKind.u32 ((x0.toNat:Int)%4294967296*16777216%4294967296)
             ((x1.toNat:Int)%4294967296*65536%4294967296))
            ((x2.toNat:Int)%4294967296*256%4294967296))
           ((x3.toNat:Int)%4294967296)=((be x0 x1 x2 x3).toNat:Int):=by
 have a:=Qbh x0.toUInt32 24 Qb;have b:=Qbh x1.toUInt32 16 Qb;have c:=Qbh x2.toUInt32 8 Qb;simp only [HG] at *;rw [show (16777216:Int)=2 ^ 24 from rfl,show (65536:Int)=2 ^ 16 from rfl,show (256:Int)=2 ^ 8 from rfl,a,b,c,Qgx,Qgx,Qgx]
 rfl
theorem s0_eq (y:UInt32):bits BinOp.xor IntKind.u32 (bits BinOp.xor IntKind.u32 ((JY y 7).toNat:Int) ((JY y 18).toNat:Int)) ((y.toNat:Int) / 8)=((s0 y).toNat:Int):=by
 rw [show (8:Int)=2 ^ 3 from rfl,K5 y 3 Qb,Kj,Kj]; rfl
theorem s1_eq (y:UInt32):bits BinOp.xor IntKind.u32 (bits BinOp.xor IntKind.u32 ((JY y 17).toNat:Int) ((JY y 19).toNat:Int)) ((y.toNat:Int) / 1024)=((s1 y).toNat:Int):=by
 rw [show (1024:Int)=2 ^ 10 from rfl,K5 y 10 Qb,Kj,Kj]; rfl
theorem ext_eq (y2 y7 y15 y16:UInt32):(bits BinOp.xor IntKind.u32 (bits BinOp.xor IntKind.u32 ((JY y2 17).toNat:Int) ((JY y2 19).toNat:Int)) ((y2.toNat:Int) / 1024)+(y7.toNat:Int)
   + bits BinOp.xor IntKind.u32 (bits BinOp.xor IntKind.u32 ((JY y15 7).toNat:Int) ((JY y15 18).toNat:Int)) ((y15.toNat:Int) / 8)+(y16.toNat:Int))%4294967296=((s1 y2+y7+s0 y15+y16).toNat:Int):=by
 rw [s0_eq,s1_eq];simp only [UInt32.toNat_add]
 omega
theorem not_u32 (x:UInt32):bits BinOp.xor IntKind.u32 IntKind.u32.max (x.toNat:Int)=((~~~x).toNat:Int):=by
 have h:IntKind.u32.max=((4294967295:UInt32).toNat:Int):=by decide
 rw [h,Kj]
 congr 2
theorem t1_eq (x:St) (kk ww:UInt32):∃ n:Nat,(x.h.toNat:Int)+bits BinOp.xor IntKind.u32 (bits BinOp.xor IntKind.u32 ((JY x.e 6).toNat:Int) ((JY x.e 11).toNat:Int)) ((JY x.e 25).toNat:Int)
     + bits BinOp.xor IntKind.u32 (bits BinOp.and IntKind.u32 (x.e.toNat:Int) (x.f.toNat:Int)) (bits BinOp.and IntKind.u32 (bits BinOp.xor IntKind.u32 IntKind.u32.max (x.e.toNat:Int)) (x.g.toNat:Int))
     + (kk.toNat:Int)+(ww.toNat:Int)=(n:Int)∧n%4294967296=(t1 x kk ww).toNat:=by
  refine ⟨x.h.toNat+(JY x.e 6 ^^^ JY x.e 11 ^^^ JY x.e 25).toNat+((x.e &&& x.f) ^^^ (~~~x.e &&& x.g)).toNat+kk.toNat+ww.toNat,?_,?_⟩
  · simp only [not_u32,Kj,Qil]; omega
  · simp only [t1,UInt32.toNat_add]; omega
theorem t2_eq (x:St):∃ n:Nat,bits BinOp.xor IntKind.u32 (bits BinOp.xor IntKind.u32 ((JY x.a 2).toNat:Int) ((JY x.a 13).toNat:Int)) ((JY x.a 22).toNat:Int)
     + bits BinOp.xor IntKind.u32 (bits BinOp.xor IntKind.u32 (bits BinOp.and IntKind.u32 (x.a.toNat:Int) (x.b.toNat:Int)) (bits BinOp.and IntKind.u32 (x.a.toNat:Int) (x.c.toNat:Int))) (bits BinOp.and IntKind.u32 (x.b.toNat:Int) (x.c.toNat:Int))
      = (n:Int)∧n%4294967296=(t2 x).toNat:=by
  refine ⟨(JY x.a 2 ^^^ JY x.a 13 ^^^ JY x.a 22).toNat+((x.a &&& x.b) ^^^ (x.a &&& x.c) ^^^ (x.b &&& x.c)).toNat,?_,?_⟩
  · simp only [Kj,Qil,Int.natCast_add]
  · simp only [t2,UInt32.toNat_add]
theorem Xh (s:List UInt8) (t:Nat):(Je s t).length=t:=by
 induction t with
 | zero=>rfl
 | succ t ih=>simp [Je,ih]
theorem Qhz (l:List UInt32) (t:Nat):(Zq l t).length=l.length+t:=by
 induction t with
 | zero=>rfl
 | succ t ih=>simp [Zq,ih]; omega
def Kw (v:St):Array Value:=#[.int .u32 v.a.toNat,.int .u32 v.b.toNat,.int .u32 v.c.toNat,.int .u32 v.d.toNat,.int .u32 v.e.toNat,.int .u32 v.f.toNat,.int .u32 v.g.toNat,.int .u32 v.h.toNat]
theorem Xq {P:Program} {f:FuncId} {args:Array Value} {w:World} {a n:Nat} {v:Value}
  (h:Calls P f args (w.drewN (a+n)) fun e w'=>e=.returned v∧w.drewN (a+n)=w') :
  Calls P f args (w.drewN (a+n)) fun e w''=>e=.returned v∧∃ m,w''=w.drewN (a+m) :=
 h.mono fun _ _ ⟨he,hm⟩=>⟨he,n,hm.symm⟩
def Qdc (v x:St) (rv nv:Value) (t j:Nat):Value :=
  if j<8 then .int .u32 (if j<t then v.words.getD j 0+x.words.getD j 0 else v.words.getD j 0).toNat else if j=8 then rv else nv
def JF (v:St) (rv nv:Value):Array Value:=#[.int .u32 v.a.toNat,.int .u32 v.b.toNat,.int .u32 v.c.toNat,.int .u32 v.d.toNat,.int .u32 v.e.toNat,.int .u32 v.f.toNat,.int .u32 v.g.toNat,.int .u32 v.h.toNat,rv,nv]
theorem Qks {w:World} {b:Nat} {v x:St} {rv nv:Value} (h:w.rowIs b 148 10 (Qdc v x rv nv 8)):Blk w b 148 (JF (XG v x) rv nv):=by
 obtain ⟨c,hc,hn,hi⟩:=h;unfold Blk;rw [hc]
 congr 2
 apply Array.ext_getElem?
 intro i
 by_cases h10:i<10
 ·rw [hi i h10]
  match i,h10 with
  | 0,_|1,_|2,_|3,_|4,_|5,_|6,_|7,_|8,_|9,_=>rfl
 ·rw [Array.getElem?_eq_none Qb,Array.getElem?_eq_none (by simp [JF]; omega)]
theorem Qkr (x:St) (j:Nat) (W:World) (hj:j<8):(Instr.index 146 (.agg #[Value.int IntKind.u32 ↑x.a.toNat,Value.int IntKind.u32 ↑x.b.toNat,Value.int IntKind.u32 ↑x.c.toNat,Value.int IntKind.u32 ↑x.d.toNat,Value.int IntKind.u32 ↑x.e.toNat,Value.int IntKind.u32 ↑x.f.toNat,Value.int IntKind.u32 ↑x.g.toNat,Value.int IntKind.u32 ↑x.h.toNat]) (.int .i64 (j:Int))).run Tryz.prog W=.ok (.int .u32 (x.words.getD j 0).toNat) W:=by
 have h:j=0∨j=1∨j=2∨j=3∨j=4∨j=5∨j=6∨j=7:=by omega
 clear hj
 rcases h with rfl|rfl|rfl|rfl|rfl|rfl|rfl|rfl <;> (show _=_; kernel_rfl)
theorem copy_st (w:World) (g:Nat) (x:St) (h:Blk w g 146 (Kw x)):∃ w3:World,
  (∀ k,(Builtin.copy_ #[188,188] 3 #[.slice (some ⟨g,1,none⟩) 7 7,.slice (some ⟨g,0,none⟩) 7 8]).run Tryz.prog (w.drewN k)=.ok (.int .i64 7) (w3.drewN k)) ∧
  Blk w3 g 146 #[.int .u32 x.a.toNat,.int .u32 x.a.toNat,.int .u32 x.b.toNat,.int .u32 x.c.toNat,.int .u32 x.d.toNat,.int .u32 x.e.toNat,.int .u32 x.f.toNat,.int .u32 x.g.toNat]∧Chg (fun k=>k=g) w w3:=by
 obtain ⟨i,hi,_,h1,_⟩:=info_parts (show (Tryz.prog.info? 143).map (fun i=>(i.zero,i.size,i.bytes))=some (some (.int .u32 0),1,4) by kernel_rfl);refine ⟨w.setRow g #[.int .u32 x.a.toNat,.int .u32 x.a.toNat,.int .u32 x.b.toNat,.int .u32 x.c.toNat,.int .u32 x.d.toNat,.int .u32 x.e.toNat,.int .u32 x.f.toNat,.int .u32 x.g.toNat],fun k=>?_,setRow_heap _ _ _ _ _ _ h,(Chg.refl (fun k=>k=g) w).setRow (.inl Z) _⟩;exact Qat (P:=Tryz.prog) (w.drewN k) (h.drewN k) 188 3 143 i Tryz.underlying188 hi h1 1 0 7 7 7 8 Qb (by simp [Kw]) (by simp [Kw]) (fun u hu=>by simp [Kw] at hu; rcases hu with h|h|h|h|h|h|h|h <;> (subst h; rfl))
theorem Qsl (b g off cap:Nat) (v:St) (rv nv:Value) (s:List UInt8) (w:World) (hb:Blk w b 148 (JF v rv nv))
   (hg:g<w.heap.size) (_hcap:64≤cap) (_hcap2:cap≤9223372036854775807)
   (hs:∀ j,j<64→w.cell? ⟨g,off+j,none⟩=some (.int .u8 (s.getD j 0).toNat))
   (hk:∀ j,j<64→w.cell? ⟨1,j,none⟩=some (.int .u32 (kTab.getD j 0).toNat)) (hk1:1<w.heap.size) :
    Calls Tryz.prog 81 #[.pointer (some ⟨b,0,none⟩),.slice (some ⟨g,off,none⟩) 64 cap] w fun e w'=>e=.returned (.tuple #[])∧Blk w' b 148 (JF (block v s) rv nv)∧Chg (fun k=>k=b) w w':=by
  have Hs:=Lib.hid hs; clear hs;have Hk:=Lib.hid hk; clear hk;have Hb:=Lib.hid hb; clear hb
  go_enter Tryz.func81,Tryz.ntmps81
  go_wp2
  go_loopw [19] (fun i wr=>∃ t:Nat,t≤16∧i=.int .i64 t∧wr.rowIs w.heap.size 186 64 (fun j=>.int .u32 ((Je s t).getD j 0).toNat)∧Chg (fun _=>False) w wr) (fun i _=>16-(intOf i).toNat)
  case atStart =>
    refine ⟨0,by omega,Z,?_,(Chg.refl _ _).alloc _⟩
    exact World.rowIs_alloc _ _ _ _ (fun i hi=>by
      simp only [List.size_toArray,List.length_cons,List.length_nil] at hi
      have:∀ i,i<64→(List.replicate 64 (Value.int IntKind.u32 0)).toArray[i]?=some (Value.int IntKind.u32 0):=fun i hi=>by rw [List.getElem?_toArray,List.getElem?_replicate,if_pos hi]
      exact this i hi)
  case round =>
    obtain ⟨t,ht,rfl,hr,hc⟩:=hrel
    by_cases hlt:t<16
    · have hcell:∀ j,j<64→wr.cell? ⟨g,off+j,none⟩=some (.int .u8 (s.getD j 0).toNat):=fun j hj=>(hc.cell (p:=⟨g,off+j,none⟩) hg (fun f=>f)).trans (Hs.out j hj)
      have c0:=hcell (4*t) Qb;have c1:=hcell (4*t+1) Qb;have c2:=hcell (4*t+2) Qb;have c3:=hcell (4*t+3) Qb;clear hcell;have d0:=hr.cell (i:=t) Qb;have d1:=hr.frozen (i:=t);have Hr:=Lib.hid hr; clear hr;have Hw:Hid (Je s (t+1)=Je s t++[be (s.getD (4*t) 0) (s.getD (4*t+1) 0) (s.getD (4*t+2) 0) (s.getD (4*t+3) 0)]):=rfl
      generalize s.getD (4*t) 0=x0 at *
      generalize s.getD (4*t+1) 0=x1 at *
      generalize s.getD (4*t+2) 0=x2 at *
      generalize s.getD (4*t+3) 0=x3 at *
      go_wp2
      go_region
      go_wp2
      go_roundw
      case rel =>
        refine ⟨t+1,by omega,by go_num,?_,(hc.setCell (.inr (Nat.le_refl _)) _).drew⟩;rw [be_eq];refine ((Hr.out.set t _).drew).congr (fun j hj=>?_);rw [Hw.out,← Qfr _ _ j t (Xh s t)]
        split <;> rfl
      case measure=>simp [intOf]; omega
    · have Hr:Hid (wr.rowIs w.heap.size 186 64 (fun j=>.int .u32 ((Je s 16).getD j 0).toNat)):=by
        obtain rfl:t=16:=by omega
        exact hr
      clear hr
      have hdec:decide ((t:Int)<16)=false:=by simp; omega
      obtain ⟨w1,rfl⟩:∃ w1:World,w1=wr:=⟨_,rfl⟩
      go_wp2
      go_loopw [6] (fun i wr=>∃ t:Nat,16≤t∧t≤64∧i=.int .i64 t∧wr.rowIs w.heap.size 186 64 (fun j=>.int .u32 ((Zq (Je s 16) (t-16)).getD j 0).toNat)∧Chg (fun _=>False) w wr) (fun i _=>64-(intOf i).toNat)
      case atStart=>exact ⟨16,by omega,by omega,rfl,Hr.out,hc⟩
      case round =>
        obtain ⟨t,ht0,ht,rfl,hr,hc'⟩:=hrel
        by_cases hlt:t<64
        · have c0:=hr.cell (i:=t-15) Qb
          have c1:=hr.cell (i:=t-2) Qb;have c2:=hr.cell (i:=t-7) Qb;have c3:=hr.cell (i:=t-16) Qb;have d0:=hr.cell (i:=t) Qb;have d1:=hr.frozen (i:=t);have Hr:=Lib.hid hr; clear hr
          have He:Hid (Zq (Je s 16) (t+1-16)=Zq (Je s 16) (t-16)++[s1 ((Zq (Je s 16) (t-16)).getD (t-2) 0)+(Zq (Je s 16) (t-16)).getD (t-7) 0+s0 ((Zq (Je s 16) (t-16)).getD (t-15) 0)+(Zq (Je s 16) (t-16)).getD (t-16) 0]):=by
            show Zq (Je s 16) (t+1-16)=_
            rw [show t+1-16=(t-16)+1 from by omega,Zq,ext,show 16+(t-16)=t from by omega]
          have Hl:Hid ((Zq (Je s 16) (t-16)).length=t):=by
            show (Zq (Je s 16) (t-16)).length=t
            rw [Qhz,Xh]; omega
          generalize (Zq (Je s 16) (t-16)).getD (t-15) 0=y15 at *
          generalize (Zq (Je s 16) (t-16)).getD (t-2) 0=y2 at *
          generalize (Zq (Je s 16) (t-16)).getD (t-7) 0=y7 at *
          generalize (Zq (Je s 16) (t-16)).getD (t-16) 0=y16 at *
          go_wp2_with (go_at_call 123; refine (VG _ _ _ Qb Qb).mono ?_; rintro e w' ⟨rfl,rfl⟩)
          go_region
          go_wp2_with (go_at_call 123; refine (VG _ _ _ Qb Qb).mono ?_; rintro e w' ⟨rfl,rfl⟩)
          go_region
          go_wp2
          go_roundw
          case rel =>
            refine ⟨t+1,by omega,by omega,by go_num,?_,by
               exact (hc'.setCell (.inr (Nat.le_refl _)) _).drewN 2⟩
            refine ((Hr.out.set t _).drew).congr (fun j hj=>?_);rw [ext_eq,He.out,← Qfr _ _ j t Hl.out]
            split <;> rfl
          case measure=>simp [intOf]; omega
        · have hrow:Hid (wr.rowIs w.heap.size 186 64 (fun j=>.int .u32 ((Yv s).getD j 0).toNat)):=by
            obtain rfl:t=64:=by omega
            exact hr
          clear hr;have hbr:Blk wr b 148 _:=Hb.out.chg hc' (fun f=>f);have hcb:=hbr.cell;unfold JF at hcb
          have hdec:decide ((t:Int)<64)=false:=by simp; omega
          obtain ⟨w2,rfl⟩:∃ w2:World,w2=wr:=⟨_,rfl⟩
          have hsz:w.heap.size<w2.heap.size:=hrow.out.lt
          go_wp2
          clear hcb;have Hbr:=Lib.hid hbr; clear hbr
          go_loopw [105] (fun i wr=>∃ t:Nat,t≤64∧i=.int .i64 t∧Blk wr w2.heap.size 146 (Kw (J2 (Yv s) v t))∧Chg (fun _=>False) w2 wr) (fun i _=>64-(intOf i).toNat)
          case atStart=>exact ⟨0,by omega,rfl,Blk.new _ _ _,(Chg.refl _ _).alloc _⟩
          case round =>
            obtain ⟨t,ht,rfl,hv,hc''⟩:=hrel
            by_cases hlt:t<64
            · have hkc:wr.cell? ⟨1,t,none⟩=some (.int .u32 (kTab.getD t 0).toNat):=(hc''.cell (p:=⟨1,t,none⟩) (by show 1<_; omega) (fun f=>f)).trans ((hc'.cell (p:=⟨1,t,none⟩) hk1 (fun f=>f)).trans (Hk.out t hlt))
              have hwc:wr.cell? ⟨w.heap.size,t,none⟩=some (.int .u32 ((Yv s).getD t 0).toNat):=(hc''.cell (p:=⟨w.heap.size,t,none⟩) (by simpa using hsz) (fun f=>f)).trans (hrow.out.cell hlt);have Hn:Hid (J2 (Yv s) v (t+1)=round (J2 (Yv s) v t) (kTab.getD t 0) ((Yv s).getD t 0)):=rfl
              generalize kTab.getD t 0=kk at *
              generalize (Yv s).getD t 0=ww at *
              generalize J2 (Yv s) v t=x at *
              have hcv:=hv.cell;have hfv:=hv.frozen;have Hv:=Lib.hid hv; clear hv;unfold Kw at hcv
              go_wp2
              go_quiet (fail)
              go_wp2
              go_quiet ((go_at_call 123; exact Xq (VG _ _ _ Qb Qb)))
              go_wp2
              go_quiet ((go_at_call 123; exact Xq (VG _ _ _ Qb Qb)))
              go_wp2
              obtain ⟨w3,hcp,hB3,hC3⟩:=copy_st wr w2.heap.size x Hv.out;have hcv3:=hB3.cell;have hfv3:=hB3.frozen;clear hcv hfv
              go_region
              clear hcp
              go_wp2
              go_roundw
              case rel =>
                refine ⟨t+1,by omega,by go_num,?_,?_⟩
                · obtain ⟨n1,e1,m1⟩:=t1_eq x kk ww
                  obtain ⟨n2,e2,m2⟩:=t2_eq x;rw [e1,e2,Hn.out]
                  have f1:((n1:Int)+n2)%4294967296=((t1 x kk ww+t2 x).toNat:Int):=by rw [UInt32.toNat_add]; omega
                  have f2:((x.d.toNat:Int)+n1)%4294967296=((x.d+t1 x kk ww).toNat:Int):=by rw [UInt32.toNat_add]; omega
                  rw [f1,f2];exact ((hB3.drewN _).set_ 0 _).set_ 4 _
                · have hz:=hc''.trans hC3 (fun i hi h=>by omega)
                  exact ((hz.drewN _).setCell (.inr (Nat.le_refl _)) _).setCell (.inr (Nat.le_refl _)) _
              case measure=>simp [intOf]; omega
            · have hrow3:Hid (Blk wr w2.heap.size 146 (Kw (J2 (Yv s) v 64))):=by
                obtain rfl:t=64:=by omega
                exact hv
              clear hv
              have hdec:decide ((t:Int)<64)=false:=by simp; omega
              have hcv:=hrow3.out.cell;have Hx:Hid (block v s=XG v (J2 (Yv s) v 64)):=rfl
              generalize J2 (Yv s) v 64=x at *
              unfold Kw at hcv
              obtain ⟨w4,rfl⟩:∃ w4:World,w4=wr:=⟨_,rfl⟩
              go_wp2
              clear hcv
              have hidx:=fun (j:Nat) (W:World) (hj:j<8)=>Qkr x j W hj
              have Hidx:=Lib.hid hidx; clear hidx
              go_loopw [180] (fun i wr=>∃ t:Nat,t≤8∧i=.int .i64 t∧wr.rowIs b 148 10 (Qdc v x rv nv t)∧Chg (fun k=>k=b) w wr) (fun i _=>8-(intOf i).toNat)
              case atStart =>
                refine ⟨0,by omega,Z,?_,?_⟩
                · exact ⟨_,Hbr.out.chg hc'' (fun f=>f),Z,fun i hi=>by
                    match i,hi with
                    | 0,_|1,_|2,_|3,_|4,_|5,_|6,_|7,_|8,_|9,_=>rfl⟩
                · exact (hc'.trans hc'' (fun _ _ f=>f)).mono (fun _ _ f=>f.elim)
              case round =>
                obtain ⟨t,ht,rfl,hr,hcb⟩:=hrel
                by_cases hlt:t<8
                · have hidx:=fun W=>Hidx.out t W hlt
                  have c0:=hr.cell (i:=t) Qb;have c1:=hr.frozen (i:=t);have Hr:=Lib.hid hr; clear hr
                  have Hf:Hid (Qdc v x rv nv t t=.int .u32 ((v.words.getD t 0).toNat:Int)):=by
                    show Qdc v x rv nv t t=_
                    simp [Qdc,hlt]
                  rw [Hf.out] at c0
                  generalize hvv:v.words.getD t 0=vv at *
                  have Hvv:=Lib.hid hvv; clear hvv
                  generalize hxx:x.words.getD t 0=xx at *
                  have Hxx:=Lib.hid hxx; clear hxx
                  go_wp2
                  clear hidx
                  go_region
                  go_wp2
                  go_roundw
                  case rel =>
                    refine ⟨t+1,by omega,by go_num,?_,(hcb.setCell (.inl Z) _).drew⟩;refine ((Hr.out.set t _).drew).congr (fun j hj=>?_)
                    by_cases hjt:j=t
                    · subst hjt
                      rw [if_pos rfl,add_u32];simp only [Qdc,hlt,if_true,Nat.lt_succ_self,Hvv.out,Hxx.out]
                    · rw [if_neg hjt]
                      unfold Qdc
                      by_cases h8:j<8
                      · rw [if_pos h8,if_pos h8]
                        by_cases hjl:j<t
                        · rw [if_pos hjl,if_pos Qb]
                        · rw [if_neg hjl,if_neg Qb]
                      · rw [if_neg h8,if_neg h8]
                  case measure=>simp [intOf]; omega
                · have Hr:Hid (Blk wr b 148 (JF (block v s) rv nv)):=by
                    obtain rfl:t=8:=by omega
                    rw [Hx.out];exact Qks hr
                  clear hr
                  go_wp2
                  go_end0
                  exact ⟨Z,Hr.out,hcb⟩
end
section
open Go.RowKit Sha
def HashAt (w:World) (S:Nat→Prop) (b:Nat) (v:St) (rest:List UInt8) (n:Nat):Prop :=
  ∃ rv,Blk w b 148 (JF v rv (.int .i64 n))∧Row w 5 1 rv rest.length (rest.map bv)∧S b∧∀ k,rv.ownBlock=some k→S k
structure ShaTabs (w:World):Prop where
  k:∀ j,j<64→w.cell? ⟨1,j,none⟩=some (.int .u32 (kTab.getD j 0).toNat)
  b:∀ j,w.cell? ⟨0,j,none⟩=(Kw begin_)[j]?
  kl:1<w.heap.size
  bl:0<w.heap.size
def Qgd (S:Nat→Prop):Prop:=¬S 1∧¬S 0
theorem ShaTabs.chg {S:Nat→Prop} {w w':World} (h:ShaTabs w) (hc:Chg S w w') (hn:Qgd S):ShaTabs w' :=
 ⟨fun j hj=>(hc.cell (p:=⟨1,j,none⟩) h.kl hn.1).trans (h.k j hj),fun j=>(hc.cell (p:=⟨0,j,none⟩) h.bl hn.2).trans (h.b j),Nat.lt_of_lt_of_le h.kl hc.size,Nat.lt_of_lt_of_le h.bl hc.size⟩
theorem ShaTabs.belowAll {w w':World} (h:ShaTabs w) (hb:Below w.heap.size w w'):ShaTabs w':=h.chg (Chg.of_below hb (fun _=>False)) ⟨fun f=>f,fun f=>f⟩
theorem ShaTabs.alloc {w:World} (h:ShaTabs w) (o:Obj):ShaTabs (w.alloc o):=h.chg ((Chg.refl (fun _=>False) w).alloc o) ⟨fun f=>f,fun f=>f⟩
theorem YW {w:World} (h:ShaTabs w) {B:Nat} (hB:w.heap.size≤B):Qgd (fun k=>B≤k):=⟨by have:=h.kl; omega,by have:=h.bl; omega⟩
def Qsq (w:World) (S:Nat→Prop) (b:Nat) (v:St) (l:List UInt8) (n:Nat) (e:Ending) (w':World):Prop :=
  e=.returned (.tuple #[])∧HashAt w' (More S w) b (JM v l).1 (JM v l).2 n∧Chg S w w'
theorem info_u8:(Tryz.prog.info? 5).map (fun i=>(i.zero,i.size,i.bytes))=some (some (.int .u8 0),1,1):=by kernel_rfl
theorem Qei (S:Nat→Prop) (b:Nat) (v:St) (rest:List UInt8) (n:Nat) (s:ByteArray) (w:World) (hH:HashAt w S b v rest n) (hK:ShaTabs w) (hS:Qgd S)
  (hn:n+s.size≤4611686018427387904) (hr:rest.length+s.size≤4294967296) :
  Calls Tryz.prog 35 #[.pointer (some ⟨b,0,none⟩),.string s] w (Qsq w S b v (rest++s.data.toList) (n+s.size)):=by
 obtain ⟨rv,hB,hR,hSb,hSr⟩:=hH;obtain ⟨i0,hi,hz0,hz1,hz2⟩:=info_parts info_u8;have hc:=hB.cell;have hf:=hB.frozen;unfold JF at hc;have HB:=Lib.hid hB; clear hB;have HR:=Lib.hid hR; clear hR
 go_enter Tryz.func35,Tryz.ntmps35
 go_wp2_with (at_builtin; go_must (refine Jv _ rfl (.tmp 19) (.tmp 20) 114 9 rfl 5 i0 _ 1 1 uz114 hi hz0 hz1 hz2 rfl Qb rv rest.length (rest.map bv) rfl (HR.out.far (HR.out.ne_ HB.out QF) _) (.string s) s.size (s.data.toList.map bv) rfl (Src.ofString _ uz9 s) (by simp only [maxLen]; omega) Qb ?_); intro v1 w1 hR1 hC1 hv1; obtain ⟨a1,cap1,rfl,hcap1,hcap1'⟩:=hR1.shape; have hB1:Blk w1 b 148 #[.int .u32 v.a.toNat,.int .u32 v.b.toNat,.int .u32 v.c.toNat,.int .u32 v.d.toNat,.int .u32 v.e.toNat,.int .u32 v.f.toNat,.int .u32 v.g.toNat,.int .u32 v.h.toNat,rv,.int .i64 ((n:Int)+s.size)]:=(HB.out.set_ 9 _).chg hC1 (HR.out.ne_ HB.out QF); have hcc1:=hB1.cell; have hff1:=hB1.frozen; clear hc hf)
 have hnb:(Value.slice a1 (rest.length+s.size) cap1).ownBlock≠some b:=hR1.ne_ hB1 QF
 have hsz1:w.heap.size≤w1.heap.size:=by have:=hC1.size; simpa [World.setCell] using this
 have hCh:Chg S w w1:=((Chg.refl S w).setCell (.inl hSb) _).trans hC1 (fun k _ hk=>hSr k hk)
 have hown1:∀ k,(Value.slice a1 (rest.length+s.size) cap1).ownBlock=some k→More S w k:=fun k hk=>by
  rcases hv1 with h|h
  ·exact .inl<|hSr k<|h.symm.trans hk
  ·rw [h] at hk;injection hk with hk;subst hk;exact .inr (by simp [World.setCell])
 go_loopg [] (rest.length+s.size) (fun k wr=>∃ v' rest',k=rest'.length∧HashAt wr (More S w) b v' rest' (n+s.size)∧JM v' rest'=JM v (rest++s.data.toList)∧Chg S w wr)
 case atStart =>
  refine ⟨v,rest++s.data.toList,by rw [List.length_append]; rfl,⟨_,?_,?_,.inl hSb,hown1⟩,Z,hCh.setCell (.inl hSb) _⟩
  ·exact hB1.set_ 8 _
  ·have:=hR1.far (p:=⟨b,8,none⟩) hnb (.slice a1 (rest.length+s.size) cap1)
   rw [List.map_append,List.length_append];exact this
 case round =>
  obtain ⟨v',rest',rfl,⟨rv',hB',hR',_,hSr'⟩,habs,hcw⟩:=hrel;have Habs:=Lib.hid habs; clear habs;clear hcc1 hff1;have hc':=hB'.cell;have hf':=hB'.frozen;unfold JF at hc'
  by_cases hlen:64≤rest'.length
  ·obtain ⟨g,off,cap,rfl,hob,hcap2,hcap3,hcells,hfr⟩:=hR'.form Qb;unfold maxLen at hcap3;have HR':=Lib.hid hR'; clear hR';have HB':=Lib.hid hB'; clear hB';have Hcells:=Lib.hid hcells; clear hcells;have Hfr:=Lib.hid hfr; clear hfr
   have hlenI:(64:Int)≤(rest'.length:Int):=by omega
   have hl':rest'.length≤9223372036854775807:=by omega
   go_wp2_with fail
   have hgs:g<wr.heap.size:=HR'.out.lt g hob;have hkt:ShaTabs wr:=hK.chg hcw hS;refine (Qsl b g off cap v' _ _ (rest'.take 64) wr HB'.out hgs Qb Qb (fun j hj=>Hcells.out j _ (by rw [List.getElem?_map]; simp [List.getElem?_eq_getElem (show j<rest'.length by omega),hj,bv])) hkt.k hkt.kl).mono ?_;rintro e w2 ⟨rfl,hB2,hC2⟩;have hc2:=hB2.cell;have hf2:=hB2.frozen;unfold JF at hc2;clear hc' hf';have hR2:=HR'.out.chg hC2 (fun k hk=>by rintro rfl; exact HR'.out.ne_ HB'.out QF hk);have hcut:=hR2.cut rfl 64 rest'.length hlen (Nat.le_refl _);have HR2:=Lib.hid hR2; clear hR2;have Hcut:=Lib.hid hcut; clear hcut;have HB2:=Lib.hid hB2; clear hB2
   go_wp2_with fail
   all_goals
    go_roundg (rest'.length-64)
    case measure=>omega
    case rel =>
     refine ⟨block v' (rest'.take 64),rest'.drop 64,by rw [List.length_drop],⟨_,HB2.out.set_ 8 _,?_,.inl hSb,?_⟩,by rw [← Habs.out,XH v' rest' hlen],(hcw.trans hC2 (fun i _ h=>by rw [h]; exact hSb)).setCell (.inl hSb) _⟩
     ·have h1:=Hcut.out.far (p:=⟨b,8,none⟩) (fun hk=>HR2.out.ne_ HB2.out QF (Qaz hk)) (sliced (some ⟨g,off,none⟩) 64 rest'.length cap 1);simp only [Nat.mul_one,List.take_of_length_le (show (List.map bv rest').length≤rest'.length by simp),sliced] at h1
      simpa [*,Addr.add_lit] using h1
     ·intro k hk
      apply hSr' k
      simpa [Value.ownBlock] using hk
  ·obtain ⟨a',cap',rfl,hca,hcb⟩:=hR'.shape;have HR':=Lib.hid hR'; clear hR';have HB':=Lib.hid hB'; clear hB'
   go_wp2_with fail
   go_end0
   rw [Qdx v' rest' Qb] at Habs;refine ⟨Z,?_,hcw⟩;rw [← Habs.out];exact ⟨_,HB'.out,HR'.out,.inl hSb,hSr'⟩
end
section
open Go.RowKit Sha
def NewHash (w:World) (e:Ending) (w':World):Prop:=∃ b,e=.returned (.pointer (some ⟨b,0,none⟩))∧HashAt w' (fun k=>w.heap.size≤k) b begin_ [] 0∧Below w.heap.size w w'
theorem HashAt.new (w:World) (S:Nat→Prop) (h:S w.heap.size):HashAt (w.alloc (.cells (JF begin_ (.slice none 0 0) (.int .i64 0)) 148)) S w.heap.size begin_ [] 0 :=
 ⟨_,Blk.new _ _ _,Row.nil _ _ _,h,fun k hk=>by simp [Value.ownBlock] at hk⟩
theorem New_any (w:World) (hT:ShaTabs w):Calls Tryz.prog 34 #[] w (NewHash w):=by
 have hb:=hT.b;unfold Kw at hb
 go_enter Tryz.func34,Tryz.ntmps34
 go_wp2
 go_ret
 exact ⟨w.heap.size,Z,HashAt.new w _ (Nat.le_refl _),((Chg.refl (fun _=>False) w).alloc _).belowAll⟩
theorem HashAt.mono {w:World} {S T:Nat→Prop} {b:Nat} {v:St} {rest:List UInt8} {n:Nat} (h:HashAt w S b v rest n) (hs:∀ k,S k→T k):HashAt w T b v rest n:=by
 obtain ⟨rv,h1,h2,h3,h4⟩:=h;exact ⟨rv,h1,h2,hs _ h3,fun k hk=>hs _ (h4 k hk)⟩
def NewRow (w:World) (e:TypeId) (size n:Nat) (xs:List Value) (en:Ending) (w':World):Prop :=
  ∃ v,en=.returned v∧Row w' e size v n xs∧Below w.heap.size w w'∧∀ k,v.ownBlock=some k→w.heap.size≤k
theorem Qtd (w:World) (v:Value) (n:Nat) (l:List UInt8) (h:Row w 5 1 v n (l.map bv)) (hn:n≤4294967296) :
  Calls Tryz.prog 82 #[v] w (NewRow w 5 1 n (l.map bv)):=by
 obtain ⟨i0,hi,hz0,hz1,hz2⟩:=info_parts info_u8;obtain ⟨a,cap,rfl,h1,h2⟩:=h.shape
 have he:∀ W:World,(binOp .eql 114 (.slice a n cap) (.slice none 0 0)).run Tryz.prog W=.ok (.bool a.isNone) W:=fun W=>Lib.run_eql_slice_nil W _ _ a n cap 0 0 uz114
 have HR:=Lib.hid h; clear h
 cases a with
 | none =>
  have hd:Option.isNone (none:Option Addr)=true:=rfl;rw [hd] at he
  go_enter Tryz.func82,Tryz.ntmps82
  go_wp2_with fail
  go_ret
  have hn0:n=0:=by
   rcases HR.out.2 with ⟨_,h⟩|⟨_,_,_,_,_,h,_⟩
   ·exact h
   ·cases h
  subst hn0;obtain rfl:l=[]:=List.eq_nil_of_length_eq_zero (by have:=HR.out.1; simpa using this);exact ⟨_,Z,Row.nil _ _ _,Below.refl _ _,fun k hk=>by simp [Value.ownBlock] at hk⟩
 | some a =>
  have hd:Option.isNone (some a)=false:=rfl;rw [hd] at he
  go_enter Tryz.func82,Tryz.ntmps82
  go_wp2_with (at_builtin; refine Jv _ rfl (.tmp 5) (.tmp 6) 114 114 rfl 5 i0 _ 1 1 uz114 hi hz0 hz1 hz2 rfl Qb (.slice (some ⟨w.heap.size,0,none⟩) 0 0) 0 [] rfl (Row.new w 5 1 0 #[] (by simp [maxLen]) rfl) (.slice (some a) n cap) n (l.map bv) rfl ((HR.out.alloc _).src uz114 (Y5 l)) (by simp only [maxLen]; omega) Qb ?_; intro v1 w1 hR1 hC1 hv1)
  go_ret
  simp only [Nat.zero_add,List.nil_append] at hR1;refine ⟨v1,Z,hR1,?_,?_⟩
  ·exact (((Chg.refl (fun _=>False) w).alloc _).next hC1 (fun k hk=>.inr (by simp [Value.ownBlock] at hk; omega))).belowAll
  ·intro k hk
   rcases hv1 with h|h <;> rw [h] at hk <;> simp [Value.ownBlock] at hk <;> omega
def z32:Array Value:=#[.int .u8 0,.int .u8 0,.int .u8 0,.int .u8 0,.int .u8 0,.int .u8 0,.int .u8 0,.int .u8 0,.int .u8 0,.int .u8 0,.int .u8 0,.int .u8 0,.int .u8 0,.int .u8 0,.int .u8 0,.int .u8 0,.int .u8 0,.int .u8 0,.int .u8 0,.int .u8 0,.int .u8 0,.int .u8 0,.int .u8 0,.int .u8 0,.int .u8 0,.int .u8 0,.int .u8 0,.int .u8 0,.int .u8 0,.int .u8 0,.int .u8 0,.int .u8 0]
def Qwx (w:World) (l:List UInt8) (e:Ending) (w':World):Prop:=e=.returned (.agg (l.map bv).toArray)∧Below w.heap.size w w'
theorem z32_eq:z32=(List.replicate 32 (bv 0)).toArray:=rfl
theorem Qti (i:Nat) (hi:i<32):z32[i]?=some (bv 0):=by
 rw [z32_eq,List.getElem?_toArray,List.getElem?_replicate,if_pos hi]
theorem YG (x:St):x.bytes.length=32:=rfl
theorem UZ (x:St):(x.bytes.map bv).toArray.size=32:=by rw [List.size_toArray,List.length_map,YG]
theorem info_sum:(Tryz.prog.info? 57).map (·.size)=some 32:=by kernel_rfl
theorem bytes_at (x:St) (j:Nat) (hj:j<8):x.bytes.getD (4*j) 0=(x.words.getD j 0 >>> 24).toUInt8∧x.bytes.getD (4*j+1) 0=(x.words.getD j 0 >>> 16).toUInt8 ∧
  x.bytes.getD (4*j+2) 0=(x.words.getD j 0 >>> 8).toUInt8∧x.bytes.getD (4*j+3) 0=(x.words.getD j 0).toUInt8:=by
 have h:j=0∨j=1∨j=2∨j=3∨j=4∨j=5∨j=6∨j=7:=by omega
 clear hj
 rcases h with rfl|rfl|rfl|rfl|rfl|rfl|rfl|rfl <;> exact ⟨rfl,rfl,rfl,rfl⟩
theorem Qwb (y:UInt32):Value.int IntKind.u8 ((y.toNat:Int)%256)=bv y.toUInt8:=by unfold bv; rw [Uv]
theorem Qwa (y:UInt32):Value.int IntKind.u8 ((y.toNat:Int) / 256%256)=bv (y >>> 8).toUInt8:=by
 have h:(y.toNat:Int) / (256:Int)=((y >>> 8).toNat:Int):=K5 y 8 Qb;unfold bv; rw [h,Uv]
theorem Qvz (y:UInt32):Value.int IntKind.u8 ((y.toNat:Int) / 65536%256)=bv (y >>> 16).toUInt8:=by
 have h:(y.toNat:Int) / (65536:Int)=((y >>> 16).toNat:Int):=K5 y 16 Qb;unfold bv; rw [h,Uv]
theorem Qvy (y:UInt32):Value.int IntKind.u8 ((y.toNat:Int) / 16777216%256)=bv (y >>> 24).toUInt8:=by
 have h:(y.toNat:Int) / (16777216:Int)=((y >>> 24).toNat:Int):=K5 y 24 Qb;unfold bv; rw [h,Uv]
theorem Qni (n i:Nat):Value.int IntKind.u8 ((n:Int)*8 / 2 ^ (8*i)%256)=bv (KD n i):=by
 unfold bv KD
 congr 1
theorem Sum_any (S:Nat→Prop) (b:Nat) (v:St) (rest:List UInt8) (n:Nat) (w:World) (hH:HashAt w S b v rest n) (hT:ShaTabs w)
  (hn:n≤1152921504606846976) (hr:rest.length≤4294960000) :
  Calls Tryz.prog 36 #[.pointer (some ⟨b,0,none⟩)] w (Qwx w (Qjk v rest n)):=by
 obtain ⟨rv,hB,hR,hSb,hSr⟩:=hH;obtain ⟨i0,hi,hz0,hz1,hz2⟩:=info_parts info_u8;have hc:=hB.cell;unfold JF at hc;have HB:=Lib.hid hB; clear hB;have HR:=Lib.hid hR; clear hR;have HT:=Lib.hid hT; clear hT;have hb:=HB.out.lt
 have hb1:b<w.heap.size+1:=by omega
 have hb2:b<w.heap.size+1+1:=by omega
 obtain ⟨ra,rc,rfl,hrc,_⟩:=HR.out.shape
 go_enter Tryz.func36,Tryz.ntmps36
 go_wp2_with fail
 refine (Qtd _ _ rest.length rest (((HR.out.alloc _).alloc _).alloc _) Qb).mono ?_;rintro e w1 ⟨v1,rfl,hR1,hb1,hf1⟩
 go_wp2_with (at_builtin; refine Jv _ rfl (.tmp 21) (.tmp 22) 114 114 rfl 5 i0 _ 1 1 uz114 hi hz0 hz1 hz2 rfl Qb v1 rest.length (rest.map bv) rfl (hR1.alloc _) (.slice (some ⟨w1.heap.size,0,none⟩) 1 1) 1 [bv 128] rfl (Row.src (Row.new w1 5 1 1 #[.int .u8 128] (by simp [maxLen]) rfl) uz114 (Y5 [128])) (by simp only [maxLen]; omega) Qb ?_; intro v2 w2 hR2 hC2 hv2)
 have hz:w.heap.size+3≤w1.heap.size:=by have:=hb1.size; simp at this; omega
 have k0:Blk w1 w.heap.size 57 z32:=(((Blk.new w 57 z32).alloc _).alloc _).belowAll hb1
 have k1:Blk w1 (w.heap.size+1) 57 z32:=by
  have:=((Blk.new (w.alloc (.cells z32 57)) 57 z32).alloc _).belowAll hb1
  simpa using this
 have k2:Blk w1 (w.heap.size+1+1) 148 (JF v (.slice none 0 0) (.int .i64 0)):=by
  have:=(Blk.new ((w.alloc (.cells z32 57)).alloc (.cells z32 57)) 148 (JF v (.slice none 0 0) (.int .i64 0))).belowAll hb1
  simpa using this
 have hw1:Chg (fun _=>False) w w1:=(((Chg.refl _ w).alloc _).alloc _).alloc _ |>.then_below hb1
 have hcw2:Chg (fun k=>w.heap.size+3≤k) w1 w2:=((Chg.refl _ w1).alloc _).next hC2 (fun k hk=>.inl (by have:=hf1 k hk; simp at this; omega))
 have hf2:∀ k,v2.ownBlock=some k→w.heap.size+3≤k:=fun k hk=>by
  rcases hv2 with h|h
  ·have:=hf1 k (h.symm.trans hk); simp at this; omega
  ·rw [h] at hk; simp at hk; omega
 clear hv2 hC2 hR1 hf1 hb1
 have Hk:Hid (Blk w1 w.heap.size 57 z32∧Blk w1 (w.heap.size+1) 57 z32∧Blk w1 (w.heap.size+1+1) 148 (JF v (.slice none 0 0) (.int .i64 0))):=⟨k0,k1,k2⟩
 clear k0 k1 k2 hc
 go_loopg [5] (ZJ rest.length) (fun k sl wr=>∃ j,k=ZJ rest.length-j∧j≤ZJ rest.length∧Row wr 5 1 sl (rest.length+1+j) ((rest++128::List.replicate j 0).map bv)∧Chg (fun k=>w.heap.size+3≤k) w1 wr∧∀ k,sl.ownBlock=some k→w.heap.size+3≤k)
 case atStart=>exact ⟨0,by omega,by omega,by simpa using hR2,hcw2,hf2⟩
 case round =>
  obtain ⟨j,rfl,hj,hRj,hCj,hfj⟩:=hrel;obtain ⟨aj,cj,rfl,hcj,hcj2⟩:=hRj.shape;have HRj:=Lib.hid hRj; clear hRj
  have hjz:ZJ rest.length<64:=by unfold ZJ; omega
  by_cases hlt:j<ZJ rest.length
  ·have ht:(rest.length+1+j)%64≠56:=by unfold ZJ at hlt; omega
   have hmb:rest.length+1+j≤4294967000:=by omega
   generalize hm:rest.length+1+j=m at *
   have Hm:=Lib.hid hm; clear hm
   have htb:(((m:Int)%64) != 56)=true:=by rw [bne_iff_ne]; omega
   go_wp2_with (at_builtin; refine Jv _ rfl (.tmp 28) (.tmp 29) 114 114 rfl 5 i0 _ 1 1 uz114 hi hz0 hz1 hz2 rfl Qb (.slice aj m cj) m ((rest++128::List.replicate j 0).map bv) rfl (HRj.out.alloc _) (.slice (some ⟨wr.heap.size,0,none⟩) 1 1) 1 [bv 0] rfl (Row.src (Row.new wr 5 1 1 #[.int .u8 0] (by simp [maxLen]) rfl) uz114 (Y5 [0])) (by simp only [maxLen]; omega) Qb ?_; intro v3 w3 hR3 hC3 hv3)
   go_roundg (ZJ rest.length-(j+1))
   case measure=>omega
   case rel =>
    refine ⟨j+1,Z,by omega,?_,(hCj.alloc _).next hC3 (fun k hk=>.inl (hfj k hk)),fun k hk=>?_⟩
    ·rw [← Hm.out] at hR3;rw [List.replicate_succ',← List.cons_append,← List.append_assoc,List.map_append];exact hR3
    ·rcases hv3 with h|h
     ·exact hfj k<|h.symm.trans hk
     ·rw [h] at hk; have:=hCj.size; simp at hk; omega
  ·have ht:(rest.length+1+j)%64=56:=by unfold ZJ at hlt hj; omega
   have hmb:rest.length+1+j≤4294967000:=by omega
   obtain rfl:j=ZJ rest.length:=by omega
   generalize hm:rest.length+1+ZJ rest.length=m at *
   have Hm:=Lib.hid hm; clear hm
   have htb:(((m:Int)%64) != 56)=false:=by rw [bne_eq_false_iff_eq]; omega
   have Ht:=Lib.hid ht; clear ht;have HC:=Lib.hid hCj; clear hCj
   obtain ⟨w4,rfl⟩:∃ w4:World,w4=wr:=⟨_,rfl⟩
   go_wp2_with fail
   go_loopg [5,6] 8 (fun k sl i wr=>∃ j:Nat,j≤8∧k=8-j∧i=.int .i64 (7-(j:Int))∧Row wr 5 1 sl (m+j) ((rest++128::(List.replicate (ZJ rest.length) 0++VN n j)).map bv)∧Chg (fun k=>w.heap.size+3≤k) w1 wr∧∀ k,sl.ownBlock=some k→w.heap.size+3≤k)
   case atStart=>exact ⟨0,by omega,rfl,rfl,by simpa [VN] using HRj.out,HC.out,hfj⟩
   case round =>
    obtain ⟨j,hj8,rfl,rfl,hR5,hC5,hf5⟩:=hrel;obtain ⟨a5,c5,rfl,hc5,hc52⟩:=hR5.shape;have HR5:=Lib.hid hR5; clear hR5
    have hcb:wr.cell? ⟨b,9,none⟩=some (.int .i64 n):=by
     rw [hC5.cell (p:=⟨b,9,none⟩) (Nat.lt_of_lt_of_le hb hw1.size) (by show ¬_≤b; omega),hw1.cell (p:=⟨b,9,none⟩) hb (fun f=>f),HB.out.cell]; rfl
    by_cases hlt:j<8
    ·have hle:decide ((j:Int)≤7)=true:=by simp; omega
     have Hb:Hid (Value.int IntKind.u8 ((n:Int)*8 / 2 ^ (8*(7-j))%256)=bv (KD n (7-j))):=Qni n (7-j)
     go_wp2_with (at_builtin; refine Jv _ rfl (.tmp 35) (.tmp 47) 114 114 rfl 5 i0 _ 1 1 uz114 hi hz0 hz1 hz2 rfl Qb (.slice a5 (m+j) c5) (m+j) _ rfl (HR5.out.alloc _) (.slice (some ⟨wr.heap.size,0,none⟩) 1 1) 1 [Value.int IntKind.u8 ((n:Int)*8 / 2 ^ (8*(7-j))%256)] rfl (Row.src (Row.new wr 5 1 1 #[Value.int IntKind.u8 ((n:Int)*8 / 2 ^ (8*(7-j))%256)] (by simp [maxLen]) rfl) uz114 (fun u hu=>by simp at hu; subst hu; rfl)) (by simp only [maxLen]; omega) Qb ?_; intro v6 w6 hR6 hC6 hv6)
     go_roundg (8-(j+1))
     case measure=>omega
     case rel =>
      refine ⟨j+1,by omega,Z,by congr 1; omega,?_,(hC5.alloc _).next hC6 (fun k hk=>.inl (hf5 k hk)),fun k hk=>?_⟩
      ·rw [Hb.out] at hR6
       have e1:rest++128::(List.replicate (ZJ rest.length) 0++VN n (j+1))=(rest++128::(List.replicate (ZJ rest.length) 0++VN n j))++[KD n (7-j)]:=by simp [VN]
       rw [e1,List.map_append];exact hR6
      ·rcases hv6 with h|h
       ·exact hf5 k<|h.symm.trans hk
       ·rw [h] at hk; have:=hC5.size; simp at hk; omega
    ·obtain rfl:j=8:=by omega
     have hle:decide ((8:Int)≤7)=false:=by simp
     have hcv:∀ W:World,W=wr→(convert 114 9 (.slice a5 (m+8) c5)).run Tryz.prog W=.ok (.string ⟨(rest++pad rest.length n).toArray⟩) W:=by
      rintro W rfl;exact Xl W _ _ _ _ _ _ uz114 uz5 uz9 HR5.out
     have hcv':=hcv wr rfl;clear hcv
     have Hlen:Hid ((rest++pad rest.length n).length=m+8):=by
      show _=_
      have:=HR5.out.1; simpa [pad] using this
     obtain ⟨w7,rfl⟩:∃ w7:World,w7=wr:=⟨_,rfl⟩
     have hsz:(ByteArray.mk (rest++pad rest.length n).toArray).size=m+8:=Hlen.out;have hnt:Qgd (fun k=>w.heap.size+1+1≤k):=YW HT.out Qb;have hT7:ShaTabs w7:=(HT.out.chg hw1 ⟨fun f=>f,fun f=>f⟩).chg hC5 (YW HT.out Qb)
     have hX:HashAt w7 (fun k=>w.heap.size+1+1≤k) (w.heap.size+1+1) v [] 0 :=
      ⟨_,Hk.out.2.2.chg hC5 Qb,Row.nil _ _ _,Nat.le_refl _,fun k hk=>by simp [Value.ownBlock] at hk⟩
     have Hsz:=Lib.hid hsz; clear hsz
     go_wp2_with fail
     refine (Qei _ _ v [] 0 _ w7 hX hT7 hnt (by rw [Hsz.out]; omega) (by rw [Hsz.out]; simp; omega)).mono ?_;rintro e w8 ⟨rfl,hX8,hC8⟩;simp only [List.nil_append] at hX8;obtain ⟨rv8,hB8,_,_,_⟩:=hX8;have HF:Hid (Qjk v rest n=(JM v (rest++pad rest.length n)).1.bytes):=rfl
     generalize (JM v (rest++pad rest.length n)).1=x at *
     have hc8:=hB8.cell;unfold JF at hc8;have HB8:=Lib.hid hB8; clear hB8;clear hcv';have k0:Blk w8 w.heap.size 57 z32:=(Hk.out.1.chg hC5 Qb).chg hC8 Qb;have k1:Blk w8 (w.heap.size+1) 57 z32:=(Hk.out.2.1.chg hC5 Qb).chg hC8 Qb;have Hk0:=Lib.hid k0; clear k0;have Hk1:=Lib.hid k1; clear k1;have hw8:Chg (fun _=>False) w w8:=(hw1.next hC5 (fun i h=>.inr Qb)).next hC8 (fun i h=>.inr Qb)
     have hidx:=fun (j:Nat) (W:World) (hj:j<8)=>Qkr x j W hj
     have Hidx:=Lib.hid hidx; clear hidx
     go_wp2_with fail
     clear hc8
     go_loopg [54] 8 (fun k i wr=>∃ j:Nat,j≤8∧k=8-j∧i=.int .i64 j∧wr.rowIs (w.heap.size+1) 57 32 (fun k=>bv (if k<4*j then x.bytes.getD k 0 else 0))∧Chg (fun k=>k=w.heap.size+1) w8 wr)
     case atStart =>
      refine ⟨0,by omega,Z,Z,Hk1.out.row Z (fun i hi=>?_),Chg.refl _ _⟩;rw [if_neg Qb];exact Qti i hi
     case round =>
      obtain ⟨j,hj8,rfl,rfl,hr9,hC9⟩:=hrel
      by_cases hlt:j<8
      ·have hix:=fun W=>Hidx.out j W hlt
       have c0:=hr9.cell (i:=4*j) Qb;have c1:=hr9.cell (i:=4*j+1) Qb;have c2:=hr9.cell (i:=4*j+2) Qb;have c3:=hr9.cell (i:=4*j+3) Qb;have f0:=hr9.frozen
       generalize hy:x.words.getD j 0=y at *
       have Hy:=Lib.hid hy; clear hy
       go_wp2_with fail
       go_roundg (8-(j+1))
       case measure=>omega
       case rel =>
        refine ⟨j+1,by omega,Z,by go_num,?_,(((hC9.setCell (.inl Z) _).setCell (.inl Z) _).setCell (.inl Z) _).setCell (.inl Z) _⟩;obtain ⟨y0,y1,y2,y3⟩:=bytes_at x j hlt;rw [Hy.out] at y0 y1 y2 y3;refine ((((hr9.set (4*j) _).set (4*j+1) _).set (4*j+2) _).set (4*j+3) _).congr (fun k hk=>?_)
        show (if k=4*j+3 then _ else if k=4*j+2 then _ else if k=4*j+1 then _ else if k=4*j then _ else _)=_
        by_cases e3:k=4*j+3
        ·rw [if_pos e3,if_pos Qb,e3,y3,Qwb]
        rw [if_neg e3]
        by_cases e2:k=4*j+2
        ·rw [if_pos e2,if_pos Qb,e2,y2,Qwa]
        rw [if_neg e2]
        by_cases e1:k=4*j+1
        ·rw [if_pos e1,if_pos Qb,e1,y1,Qvz]
        rw [if_neg e1]
        by_cases e0:k=4*j
        ·rw [if_pos e0,if_pos Qb,e0,y0,Qvy]
        rw [if_neg e0]
        by_cases el:k<4*j
        ·rw [if_pos el,if_pos Qb]
        ·rw [if_neg el,if_neg Qb]
      ·obtain rfl:j=8:=by omega
       have hB9:Blk wr (w.heap.size+1) 57 (x.bytes.map bv).toArray:=Blk.of_row hr9 (by simp [YG]) (fun i hi=>by
        simp only [List.getElem?_toArray,List.getElem?_map];rw [if_pos Qb,List.getElem?_eq_getElem (by rw [YG]; exact hi)]
        simp [List.getD,List.getElem?_eq_getElem (show i<x.bytes.length by rw [YG]; exact hi)])
       have hB0:Blk wr w.heap.size 57 z32:=Hk0.out.chg hC9 Qb;have HB9:=Lib.hid hB9; clear hB9;have HB0:=Lib.hid hB0; clear hB0;have HR9:=Lib.hid hr9; clear hr9
       go_wp2_with (first
        | (refine U4 rfl 57 (.tmp 3) rfl (w.heap.size+1) rfl HB9.out uz57 rfl (by rw [UZ]; exact info_sum) ?_)
        | ((refine KS rfl 57 (.tmp 2) (.tmp 85) rfl w.heap.size (x.bytes.map bv).toArray rfl rfl HB0.out (by rw [UZ]; exact info_sum) (by rw [UZ]; rfl) (Y5 x.bytes) ?_); intro w10 hB10 hC10))
       refine bodyPost_ret (Xo Z _ _ w.heap.size Z hB10 uz57 Z (by rw [UZ]; exact info_sum)) Z ?_;exact ⟨by rw [HF.out],((hw8.next hC9 (fun i h=>.inr Qb)).next hC10 (fun i h=>.inr Qb)).belowAll⟩
end
section
open Go.RowKit Sha
theorem JD (m:List UInt8):(sha m).length=32:=rfl
theorem Yh {l:List UInt8} (h:l.length=32):(l.map bv).toArray.size=32:=by rw [List.size_toArray,List.length_map,h]
theorem Qsv (s:ByteArray) (w:World) (hT:ShaTabs w) (hs:s.size≤4294960000) :
  Calls Tryz.prog 14 #[.string s] w (Qwx w (sha s.data.toList)):=by
 have HT:=Lib.hid hT; clear hT;have k0:=Blk.new w 57 z32;have Hk:=Lib.hid k0; clear k0
 go_enter fz14,Tryz.ntmps14
 go_wp2_with fail
 ((with_reducible refine (New_any _ (HT.out.alloc _)).mono ?_); rintro e w1 ⟨b,rfl,hX1,hb1⟩)
 have hT1:ShaTabs w1:=(HT.out.alloc _).belowAll hb1;have hX1':=hX1.mono (T:=fun k=>w.heap.size+1≤k) (fun k hk=>by simp at hk; omega)
 go_wp2_with fail
 ((with_reducible refine (Qei (fun k=>w.heap.size+1≤k) b begin_ [] 0 s w1 hX1' hT1 (YW HT.out Qb) Qb (by simp; omega)).mono ?_); rintro e w2 ⟨rfl,hX2,hC2⟩)
 simp only [List.nil_append,Nat.zero_add] at hX2;have hT2:ShaTabs w2:=hT1.chg hC2 (YW HT.out Qb)
 go_wp2_with fail
 ((with_reducible refine (Sum_any _ _ _ _ _ w2 hX2 hT2 Qb (by rw [Vb]; omega)).mono ?_); rintro e w3 ⟨rfl,hb3⟩)
 have hc2:Chg (fun _=>False) w w2:=(((Chg.refl _ w).alloc _).then_below hb1).next hC2 (fun i h=>.inr Qb);have hB3:Blk w3 w.heap.size 57 z32:=((Hk.out.belowAll hb1).chg hC2 Qb).belowAll hb3;have HF:Hid (Qjk (JM begin_ s.data.toList).1 (JM begin_ s.data.toList).2 s.size=sha s.data.toList):=rfl;have HB3:=Lib.hid hB3; clear hB3;rw [HF.out]
 go_wp2_with (refine KS rfl 57 (.tmp 2) (.tmp 9) rfl w.heap.size ((sha s.data.toList).map bv).toArray rfl rfl HB3.out (by rw [Yh (JD _)]; exact info_sum) (by rw [Yh (JD _)]; rfl) (Y5 (sha s.data.toList)) ?_; intro w10 hB10 hC10)
 refine bodyPost_end (Xo Z _ _ w.heap.size Z hB10 uz57 Z (by rw [Yh (JD _)]; exact info_sum)) Z ?_;exact ⟨Z,((hc2.then_below hb3).next hC10 (fun i h=>.inr Qb)).belowAll⟩
end
end Go.Proofs.YtgiccohjijhfkaaGreatDoor
