/- Part 14. -/
import Derived.Test.YtgiccohjijhfkaaGreatDoorPackPlaysP13
set_option maxRecDepth 100000
set_option maxHeartbeats 4000000
namespace Go.Proofs.YtgiccohjijhfkaaGreatDoor
section
open Go.RowKit
theorem bRDisk (n:Int) (w:World):(Instr.build 53 #[(1,.int .i64 n)]).run Tryz.prog w=.ok (.agg #[.slice none 0 0,.int .i64 n,.int .i64 0,.bool false,.int .i64 0]) w:=by kernel_rfl
theorem bRFile (n:Key) (w:World):(Instr.build 69 #[(0,Qv n)]).run Tryz.prog w=.ok (.agg #[Qv n,Qv [],.slice none 0 0]) w:=by kernel_rfl
theorem RNew_ok (n:Int) (w:World) (hn:0≤n∧n≤16777216) :
  Calls Tryz.prog 5 #[.int .i64 n] w fun e w'=>∃ g S,e=.returned (.tuple #[.pointer (some ⟨g,0,none⟩),.int .i64 0])∧RDisk w' g (YC n) S∧(∀ k,S k→w.heap.size≤k∧k<w'.heap.size)∧Below w.heap.size w w':=by
 refine Qj (args:=[.int .i64 n]) 13 fz5 Z Z Z<|Qt [(0,.int .i64 n)] ?_ ⟨Z,tvA⟩
 have bw:=Below.refl w.heap.size w
 refine Qa<|sa Z Z<|sa Z Z<|Wn<|tN<|Qe<|Qa<|sm Z Z<|st (QJ Z Z) Z<|sbN Z (decide_eq_false Qb) Z<|gY Z Z Z<|sm Z Z<|gY Z Z Z<|st (Jg Z Z) Z<|st (Qq Z Z) Z<|Wn<|tN<|QX Z (decide_eq_false Qb)<|Qf<|tN<|Qa<|sm Z Z<|st (Ja Z (bRDisk n _)) Z<|J1 Z Z (fun g12 w1 hB12 hg12 hb hl12=>?_)
 replace bw:=Ql bw hb;have zz1:=hb.size;clear hb
 refine sa Z Z<|sa Z Z<|Wn<|tN<|Qg ?_
 exact (J6 Z Z Z ⟨g12,fun k=>k=g12,Z,⟨_,[],⟨hB12,Row.nil _ _ _,Z,fun r hr=>by cases hr⟩,List.Pairwise.nil,Z,fun k hk=>by simp [Value.ownBlock] at hk,fun r hr=>by cases hr⟩,fun k hk=>by subst hk; omega,bw⟩).1
theorem Qxb (n:Int) (w:World) (hn:¬(0≤n∧n≤16777216)) :
  Calls Tryz.prog 5 #[.int .i64 n] w fun e w'=>e=.returned (.tuple #[.pointer none,.int .i64 1])∧Below w.heap.size w w':=by
 by_cases h0:n<0
 ·skip
  refine Qj (args:=[.int .i64 n]) 13 fz5 Z Z Z<|Qt [(0,.int .i64 n)] ?_ ⟨Z,tvA⟩
  have bw:=Below.refl w.heap.size w
  refine Qa<|sa Z Z<|sa Z Z<|Wn<|tN<|Qe<|Qa<|sm Z Z<|st (QJ Z Z) Z<|UP Z (decide_eq_true h0) Z<|gN Z Z Z Z<|gN Z Z Z Z<|st (Qm Z Z) Z<|Wn<|tN<|QO Z (Z)<|Qa<|sa Z Z<|sa Z Z<|Wn<|tN<|Qg<|tR ?_
  exact (J6 Z Z Z ⟨Z,bw⟩).1
 ·skip
  refine Qj (args:=[.int .i64 n]) 13 fz5 Z Z Z<|Qt [(0,.int .i64 n)] ?_ ⟨Z,tvA⟩
  have bw:=Below.refl w.heap.size w
  refine Qa<|sa Z Z<|sa Z Z<|Wn<|tN<|Qe<|Qa<|sm Z Z<|st (QJ Z Z) Z<|sbN Z (decide_eq_false h0) Z<|gY Z Z Z<|sm Z Z<|gY Z Z Z<|st (Jg Z Z) Z<|st (Qq Z Z) Z<|Wn<|tN<|QO Z (decide_eq_true Qb)<|Qa<|sa Z Z<|sa Z Z<|Wn<|tN<|Qg<|tR ?_
  exact (J6 Z Z Z ⟨Z,bw⟩).1
theorem RIn.chg {w w':World} {g:Nat} {D:DiskD} {vF:Value} {rs:List RRec} {T:Nat→Prop} (h:RIn w g D vF rs) (hC:Chg T w w') (hd:¬T g∧(∀ k,vF.ownBlock=some k→¬T k)∧(∀ q∈rs,∀ k,q.v.ownBlock=some k→¬T k)):RIn w' g D vF rs :=
 ⟨h.blk.chg hC hd.1,h.row.chg hC hd.2.1,h.files,fun r hr=>(h.rows r hr).chg hC (hd.2.2 r hr)⟩
theorem RApart.others {rs:List RRec} {i:Nat} {r:RRec} (h:RApart rs) (hr:rs[i]?=some r):∀ a∈Zl rs i,∀ k,a.v.ownBlock=some k→¬r.v.ownBlock=some k:=by
 have hi:=(List.getElem?_eq_some_iff.1 hr).1
 have hp:RApart (rs.take i++r::rs.drop (i+1)):=by
  have e:rs=rs.take i++r::rs.drop (i+1):=by
   obtain ⟨_,rfl⟩:=List.getElem?_eq_some_iff.1 hr;rw [← List.drop_eq_getElem_cons hi,List.take_append_drop]
  rwa [← e]
 obtain ⟨_,h2,h3⟩:=List.pairwise_append.1 hp;intro a ha k hk e
 rcases List.mem_append.1 ha with ha|ha
 ·exact h3 a ha r (List.mem_cons_self ..) k hk e
 ·exact (List.pairwise_cons.1 h2).1 a ha k e hk
section
variable (g:Nat) (D:DiskD) (S:Nat→Prop) (w:World) (h:RDisk w g D S)
include h
theorem Qap (n:Key) (hok:DOk D) (hlen:D.files.length≤900000) (hn:n.length≤9223372036854775807):Calls Tryz.prog 83 #[.pointer (some ⟨g,0,none⟩),Qv n] w (RPost g S w (QV D n)):=by
 have h0:=h;obtain ⟨vF,rs,h,hh⟩:=h;have hSg:=hh.g
 by_cases hl:D.stops=true∧D.left=0
 ·skip
  refine Qj (args:=[.pointer (some ⟨g,0,none⟩),Qv n]) 18 fz83 Z Z Z<|Qt [(0,.pointer (some ⟨g,0,none⟩)),(1,Qv n)] ?_ ⟨Z,Z,tvA⟩
  have bw:=Below.refl w.heap.size w
  refine Qa<|sa Z Z<|Wn<|tN<|Qe<|Qa<|sm Z Z<|sc _ fz114 Z Qo Z Z<|(XF g D vF rs _ h hl).mono ?_
  rintro e_ w_ ⟨rfl,rfl⟩
  refine cR<|Wn<|tN<|QO Z (Z)<|Qa<|sa Z Z<|Wn<|tN<|Qg<|tR ?_
  exact (rT Z Z (RPost.same h0 bw (ZY hl _))).1
 obtain ⟨o,ho⟩:=Ky rs n;have hok':=Kt hok hl
 cases o with
 | some i =>
  refine Qj (args:=[.pointer (some ⟨g,0,none⟩),Qv n]) 18 fz83 Z Z Z<|Qt [(0,.pointer (some ⟨g,0,none⟩)),(1,Qv n)] ?_ ⟨Z,Z,tvA⟩
  have hcw:=Chg.refl (S) w
  refine Qa<|sa Z Z<|Wn<|tN<|Qe<|Qa<|sm Z Z<|sc _ fz114 Z Qo Z Z<|(KJ g D vF rs _ h hok hl).mono ?_
  clear h;rintro e_ w1 ⟨rfl,h,hC⟩;refine cR ?_;replace hcw:=hcw.next hC KO;have zz1:=hC.size;clear hC
  refine Wn<|tN<|QX Z (Z)<|Qf<|tN<|Qe<|Qa<|sm Z Z<|sc _ fz124 Z Qo Z Z (Q3 (XM n _ hn) fun w2 hb=>?_)
  replace hcw:=hcw.then_below hb;replace h:=h.bel hb;have zz2:=hb.size;clear hb
  refine st (Jk Z) Z<|Wn<|tN<|Qx Z (fun h9=>?_) (fun h9=>?_)
  ·replace h9:=Qs h9
   refine Qa<|sa Z Z<|Wn<|tN<|Qg<|tR ?_
   exact (rT Z Z (RPost.of h hh.ext hcw ((Q6 hl _).trans (if_neg (by rw [h9]; simp))))).1
  ·replace h9:=Qs h9
   refine Qf<|tN<|Qe<|Qa<|sm Z Z<|sm Z Z<|sc _ fz60 Z Qo Z Z<|(Jp g (QH D) vF rs n (some i) _ h ho).mono ?_
   rintro e_ w_ ⟨rfl,rfl⟩
   refine cR<|st (Z1 Z Z) Z<|Wn<|tN<|QO Z (decide_eq_true (by show (0:Int)≤(i:Int); omega)) ?_
   refine Qa<|sa Z Z<|Wn<|tN<|Qg<|tR ?_
   obtain ⟨r,_,_,hg,_⟩:=h.get_some hok' ho;exact (rT Z Z (RPost.of h hh.ext hcw ((Q6 hl _).trans ((if_pos h9).trans (if_pos (by rw [hg]; rfl)))))).1
 | none =>
  refine Qj (args:=[.pointer (some ⟨g,0,none⟩),Qv n]) 18 fz83 Z Z Z<|Qt [(0,.pointer (some ⟨g,0,none⟩)),(1,Qv n)] ?_ ⟨Z,Z,tvA⟩
  have hcw:=Chg.refl (S) w
  refine Qa<|sa Z Z<|Wn<|tN<|Qe<|Qa<|sm Z Z<|sc _ fz114 Z Qo Z Z<|(KJ g D vF rs _ h hok hl).mono ?_
  clear h;rintro e_ w1 ⟨rfl,h,hC⟩;refine cR ?_;replace hcw:=hcw.next hC KO;have zz1:=hC.size;clear hC
  refine Wn<|tN<|QX Z (Z)<|Qf<|tN<|Qe<|Qa<|sm Z Z<|sc _ fz124 Z Qo Z Z (Q3 (XM n _ hn) fun w2 hb=>?_)
  replace hcw:=hcw.then_below hb;replace h:=h.bel hb;have zz2:=hb.size;clear hb
  refine st (Jk Z) Z<|Wn<|tN<|Qx Z (fun h9=>?_) (fun h9=>?_)
  ·replace h9:=Qs h9
   refine Qa<|sa Z Z<|Wn<|tN<|Qg<|tR ?_
   exact (rT Z Z (RPost.of h hh.ext hcw ((Q6 hl _).trans (if_neg (by rw [h9]; simp))))).1
  ·replace h9:=Qs h9
   refine Qf<|tN<|Qe<|Qa<|sm Z Z<|sm Z Z<|sc _ fz60 Z Qo Z Z<|(Jp g (QH D) vF rs n none _ h ho).mono ?_
   rintro e_ w_ ⟨rfl,rfl⟩
   refine cR<|st (Z1 Z Z) Z<|Wn<|tN<|QX Z (Z)<|Qf<|tN<|Qa<|sm Z Z<|sm Z Z<|st (Ja Z (bRFile n _)) Z<|sc _ Tryz.func125 Z Qo Z Z<|(Qcg g (QH D) vF rs ⟨n,newFile,.slice none 0 0⟩ _ h Z (by rw [h.len,Zh]; omega)).mono ?_
   rintro e_ w3 ⟨rfl,vo,hB2,hR2,hvo,hX⟩;refine cR ?_;have hgn:=h.get_none ho;have h2:=h.put (r:=⟨n,newFile,.slice none 0 0⟩) (Row.nil _ _ _) ho hB2 hR2 hX (QH D).used;have zz3:=hX.size;have hzc:=hcw.size
   have hh2:RHas g vo (insR rs ⟨n,newFile,.slice none 0 0⟩) (Ext S w w3):=⟨Vq hh.apart (fun a _ k _ e=>by simp [Value.ownBlock] at e),.inl hSg,fun k hk=>.inr ⟨by have:=hvo k hk; omega,hR2.lt k hk⟩,fun q hq k hk=>by
    rcases Xx hq with rfl|hq
    ·simp [Value.ownBlock] at hk
    ·exact .inl (hh.v q hq k hk)⟩
   replace hcw:=hcw.next hX (fun i hi=>.inl (by rw [show i=g from hi]; exact hSg))
   refine Wn<|tN<|Qa<|sa Z Z<|Wn<|tN<|Qg ?_
   exact (rT Z Z (RPost.of h2 hh2 hcw ((Q6 hl _).trans ((if_pos h9).trans (if_neg (by rw [hgn]; simp)))))).1
theorem Ul (n:Key) (hok:DOk D) (hlen:D.files.length≤900000):Calls Tryz.prog 69 #[.pointer (some ⟨g,0,none⟩),Qv n] w (RPost g S w (Q7 D n)):=by
 have h0:=h;obtain ⟨vF,rs,h,hh⟩:=h;have hSg:=hh.g
 by_cases hl:D.stops=true∧D.left=0
 ·skip
  refine Qj (args:=[.pointer (some ⟨g,0,none⟩),Qv n]) 16 fz69 Z Z Z<|Qt [(0,.pointer (some ⟨g,0,none⟩)),(1,Qv n)] ?_ ⟨Z,Z,tvA⟩
  have bw:=Below.refl w.heap.size w
  refine Qa<|sa Z Z<|Wn<|tN<|Qe<|Qa<|sm Z Z<|sc _ fz114 Z Qo Z Z<|(XF g D vF rs _ h hl).mono ?_
  rintro e_ w_ ⟨rfl,rfl⟩
  refine cR<|Wn<|tN<|QO Z (Z)<|Qa<|sa Z Z<|Wn<|tN<|Qg<|tR ?_
  exact (rT Z Z (RPost.same h0 bw (ZY hl _))).1
 obtain ⟨o,ho⟩:=Ky rs n;have hok':=Kt hok hl
 cases o with
 | none =>
  refine Qj (args:=[.pointer (some ⟨g,0,none⟩),Qv n]) 16 fz69 Z Z Z<|Qt [(0,.pointer (some ⟨g,0,none⟩)),(1,Qv n)] ?_ ⟨Z,Z,tvA⟩
  have hcw:=Chg.refl (S) w
  refine Qa<|sa Z Z<|Wn<|tN<|Qe<|Qa<|sm Z Z<|sc _ fz114 Z Qo Z Z<|(KJ g D vF rs _ h hok hl).mono ?_
  clear h;rintro e_ w1 ⟨rfl,h,hC⟩;refine cR ?_;replace hcw:=hcw.next hC KO;have zz1:=hC.size;clear hC
  refine Wn<|tN<|QX Z (Z)<|Qf<|tN<|Qa<|sm Z Z<|sm Z Z<|sc _ fz60 Z Qo Z Z<|(Jp g (QH D) vF rs n none _ h ho).mono ?_
  rintro e_ w_ ⟨rfl,rfl⟩
  refine cR<|sa Z Z<|Wn<|tN<|Qe<|Qa<|sm Z Z<|st (QJ Z Z) Z<|Wn<|tN<|QO Z (Z)<|Qa<|sa Z Z<|Wn<|tN<|Qg<|tR ?_
  exact (rT Z Z (RPost.of h hh.ext hcw ((Q6 hl _).trans (Jd (h.get_none ho) _)))).1
 | some i =>
  obtain ⟨⟨r,hr,hrn⟩,hmin⟩:=ho
  refine Qj (args:=[.pointer (some ⟨g,0,none⟩),Qv n]) 16 fz69 Z Z Z<|Qt [(0,.pointer (some ⟨g,0,none⟩)),(1,Qv n)] ?_ ⟨Z,Z,tvA⟩
  have hcw:=Chg.refl (S) w
  refine Qa<|sa Z Z<|Wn<|tN<|Qe<|Qa<|sm Z Z<|sc _ fz114 Z Qo Z Z<|(KJ g D vF rs _ h hok hl).mono ?_
  clear h;rintro e_ w1 ⟨rfl,h,hC⟩;refine cR ?_;replace hcw:=hcw.next hC KO;have zz1:=hC.size;clear hC
  refine Wn<|tN<|QX Z (Z)<|Qf<|tN<|Qa<|sm Z Z<|sm Z Z<|sc _ fz60 Z Qo Z Z<|(Jp g (QH D) vF rs n (some i) _ h ⟨⟨r,hr,hrn⟩,hmin⟩).mono ?_
  rintro e_ w_ ⟨rfl,rfl⟩
  refine cR<|sa Z Z<|Wn<|tN<|Qe<|Qa<|sm Z Z<|st (QJ Z Z) Z<|Wn<|tN<|QX Z (decide_eq_false (by show ¬(i:Int)<0; omega)) ?_
  refine Qf<|tN<|Qa<|sm Z Z<|sm Z Z<|sc _ fz115 Z Qo Z Z<|(XO g (QH D) vF rs i r _ h hr (by rw [h.len,Zh]; omega)).mono ?_
  rintro e_ w2 ⟨rfl,vo,hB2,hR2,hvo,hX⟩;refine cR ?_;obtain ⟨_,hgr⟩:=h.fok hok' (List.mem_of_getElem? hr);subst hrn;have h2:=h.del hr hmin hB2 hR2 hX ((QH D).used-r.f.now.length);have zz2:=hX.size;have hzc:=hcw.size
  have hh2:RHas g vo (Zl rs i) (Ext S w w2):=⟨hh.apart.sublist (Yn rs i),.inl hSg,fun k hk=>.inr ⟨by have:=hvo k hk; omega,hR2.lt k hk⟩,fun q hq k hk=>.inl (hh.v q (ZK hq) k hk)⟩
  replace hcw:=hcw.next hX (fun i hi=>.inl (by rw [show i=g from hi]; exact hSg))
  refine Wn<|tN<|Qa<|sa Z Z<|Wn<|tN<|Qg ?_
  exact (rT Z Z (RPost.of h2 hh2 hcw ((Q6 hl _).trans (QW hgr _)))).1
theorem Qlw (n m:Key) (hok:DOk D) (hlen:D.files.length≤900000) (hm:m.length≤9223372036854775807):Calls Tryz.prog 111 #[.pointer (some ⟨g,0,none⟩),Qv n,Qv m] w (RPost g S w (Kx D n m)):=by
 have h0:=h;obtain ⟨vF,rs,h,hh⟩:=h;have hSg:=hh.g
 by_cases hl:D.stops=true∧D.left=0
 ·skip
  refine Qj (args:=[.pointer (some ⟨g,0,none⟩),Qv n,Qv m]) 36 fz111 Z Z Z<|Qt [(0,.pointer (some ⟨g,0,none⟩)),(1,Qv n),(2,Qv m)] ?_ ⟨Z,Z,Z,tvA⟩
  have bw:=Below.refl w.heap.size w
  refine Qa<|sa Z Z<|Wn<|tN<|Qe<|Qa<|sm Z Z<|sc _ fz114 Z Qo Z Z<|(XF g D vF rs _ h hl).mono ?_
  rintro e_ w_ ⟨rfl,rfl⟩
  refine cR<|Wn<|tN<|QO Z (Z)<|Qa<|sa Z Z<|Wn<|tN<|Qg<|tR ?_
  exact (rT Z Z (RPost.same h0 bw (ZY hl _))).1
 obtain ⟨o,ho⟩:=Ky rs n;have hok':=Kt hok hl
 cases o with
 | none =>
  refine Qj (args:=[.pointer (some ⟨g,0,none⟩),Qv n,Qv m]) 36 fz111 Z Z Z<|Qt [(0,.pointer (some ⟨g,0,none⟩)),(1,Qv n),(2,Qv m)] ?_ ⟨Z,Z,Z,tvA⟩
  have hcw:=Chg.refl (S) w
  refine Qa<|sa Z Z<|Wn<|tN<|Qe<|Qa<|sm Z Z<|sc _ fz114 Z Qo Z Z<|(KJ g D vF rs _ h hok hl).mono ?_
  clear h;rintro e_ w1 ⟨rfl,h,hC⟩;refine cR ?_;replace hcw:=hcw.next hC KO;have zz1:=hC.size;clear hC
  refine Wn<|tN<|QX Z (Z)<|Qf<|tN<|Qe<|Qa<|sm Z Z<|sc _ fz124 Z Qo Z Z (Q3 (XM m _ hm) fun w2 hb=>?_)
  replace hcw:=hcw.then_below hb;replace h:=h.bel hb;have zz2:=hb.size;clear hb
  refine st (Jk Z) Z<|Wn<|tN<|Qx Z (fun h14=>?_) (fun h14=>?_)
  ·replace h14:=Qs h14
   refine Qa<|sa Z Z<|Wn<|tN<|Qg<|tR ?_
   exact (rT Z Z (RPost.of h hh.ext hcw ((Q6 hl _).trans (if_neg (by rw [h14]; simp))))).1
  ·replace h14:=Qs h14
   refine Qf<|tN<|Qa<|sm Z Z<|sm Z Z<|sc _ fz60 Z Qo Z Z<|(Jp g (QH D) vF rs n none _ h ho).mono ?_
   rintro e_ w_ ⟨rfl,rfl⟩
   refine cR<|sa Z Z<|Wn<|tN<|Qe<|Qa<|sm Z Z<|st (QJ Z Z) Z<|Wn<|tN<|QO Z (Z)<|Qa<|sa Z Z<|Wn<|tN<|Qg<|tR ?_
   exact (rT Z Z (RPost.of h hh.ext hcw ((Q6 hl _).trans ((if_pos h14).trans (Jd (h.get_none ho) _))))).1
 | some i =>
  obtain ⟨⟨r,hr,hrn⟩,hmin⟩:=ho;obtain ⟨o2,ho2⟩:=Ky (Zl rs i) m;have h1r:=h.ones r (List.mem_of_getElem? hr);have hra:=hh.apart.others hr
  have hrl:rs.length≤900000:=by rw [h.len]; exact hlen
  have hsrt:Rising (QH D).files:=hok'.srt;have hren:Kx D n m=(if Zj m=true then Ym (QH D) n fun f=>if n=m then (0,QH D) else (0,{ QH D with files:=sput (mdel (QH D).files n) m f,used:=(QH D).used-Qcw (QH D) m }) else (1,QH D)):=Q6 hl _
  cases o2 with
  | none =>
   refine Qj (args:=[.pointer (some ⟨g,0,none⟩),Qv n,Qv m]) 36 fz111 Z Z Z<|Qt [(0,.pointer (some ⟨g,0,none⟩)),(1,Qv n),(2,Qv m)] ?_ ⟨Z,Z,Z,tvA⟩
   have hcw:=Chg.refl (S) w
   refine Qa<|sa Z Z<|Wn<|tN<|Qe<|Qa<|sm Z Z<|sc _ fz114 Z Qo Z Z<|(KJ g D vF rs _ h hok hl).mono ?_
   clear h;rintro e_ w1 ⟨rfl,h,hC⟩;refine cR ?_;replace hcw:=hcw.next hC KO;have zz1:=hC.size;clear hC
   refine Wn<|tN<|QX Z (Z)<|Qf<|tN<|Qe<|Qa<|sm Z Z<|sc _ fz124 Z Qo Z Z (Q3 (XM m _ hm) fun w2 hb=>?_)
   replace hcw:=hcw.then_below hb;replace h:=h.bel hb;have zz2:=hb.size;clear hb
   refine st (Jk Z) Z<|Wn<|tN<|Qx Z (fun h14=>?_) (fun h14=>?_)
   ·replace h14:=Qs h14
    refine Qa<|sa Z Z<|Wn<|tN<|Qg<|tR ?_
    exact (rT Z Z (RPost.of h hh.ext hcw ((Q6 hl _).trans (if_neg (by rw [h14]; simp))))).1
   ·replace h14:=Qs h14
    refine Qf<|tN<|Qa<|sm Z Z<|sm Z Z<|sc _ fz60 Z Qo Z Z<|(Jp g (QH D) vF rs n (some i) _ h ⟨⟨r,hr,hrn⟩,hmin⟩).mono ?_
    rintro e_ w_ ⟨rfl,rfl⟩
    refine cR<|sa Z Z<|Wn<|tN<|Qe<|Qa<|sm Z Z<|st (QJ Z Z) Z<|Wn<|tN<|QX Z (decide_eq_false (by show ¬(i:Int)<0; omega)) ?_
    refine Qf<|tN<|Qa<|sm Z Z<|sm Z Z<|sc _ fz115 Z Qo Z Z<|(XO g (QH D) vF rs i r _ h hr (by rw [h.len,Zh]; omega)).mono ?_
    rintro e_ w3 ⟨rfl,vo,hB2,hR2,hvo,hX⟩;refine cR ?_;obtain ⟨_,hgr⟩:=h.fok hok' (List.mem_of_getElem? hr);rw [hrn] at hgr;have h2:=h.del hr (by rw [hrn]; exact hmin) hB2 hR2 hX (QH D).used;rw [hrn] at h2;have zz3:=hX.size;have hzc:=hcw.size;have hRv:=(h.rows r (List.mem_of_getElem? hr)).chg hX ((h.rows r (List.mem_of_getElem? hr)).ne2 h.blk QF);replace hcw:=hcw.next hX (fun i hi=>.inl (by rw [show i=g from hi]; exact hSg));have hlv:=hRv.lt;have hlo:=h2.row.lt
    have hlr:=fun q hq=>(h2.rows q hq).lt
    have hlg:=h2.blk.lt
    have hvo2:∀ k,vo.ownBlock=some k→w.heap.size≤k:=fun k hk=>by have:=hvo k hk; omega
    clear h hB2 hR2 hX hvo;refine Jm inf69 Z (fun g8 w4 hB8 hg8 hb hl8=>?_);replace hcw:=hcw.then_below hb;replace h2:=h2.bel hb;replace hRv:=hRv.bel hb;have zz4:=hb.size;clear hb
    have hne8:¬g=g8∧(∀ k,vo.ownBlock=some k→¬k=g8)∧(∀ q∈Zl rs i,∀ k,q.v.ownBlock=some k→¬k=g8):=⟨by omega,fun k hk=>by have:=hlo k hk; omega,fun q hq k hk=>by have:=hlr q hq k hk; omega⟩
    have hne9:∀ k,r.v.ownBlock=some k→¬k=g8:=fun k hk=>by have:=hlv k hk; omega
    refine QY Z Z hB8 siz69 Z (Qbi h1r) (fun w5 bB cC=>?_);replace hB8:=bB;clear bB;replace h2:=h2.chg cC Z5;replace hRv:=hRv.chg cC Z5;replace hcw:=hcw.next cC KO;have zz5:=cC.size;clear cC;have hB8':Blk w5 g8 69 #[Qv r.n,Qv r.f.last,r.v]:=hB8;clear hB8;have hB8:=hB8';clear hB8'
    refine Wn<|tN<|Qa<|sm Z Z<|sm Z Z<|sc _ fz60 Z Qo Z Z<|(Jp g _ vo (Zl rs i) m none _ h2 ho2).mono ?_
    rintro e_ w_ ⟨rfl,rfl⟩
    refine cR<|sa Z Z<|Wn<|tN<|Qe<|Qa<|sm Z Z<|st (Z1 Z Z) Z<|Wn<|tN<|QX Z (Z)<|Qf<|tN<|Qa<|sm Z Z<|st (Qk Qdj Z) Z<|KL Z Z hB8 siz9 Z (by first|decide|simp) (fun w6 bB cC=>?_)
    replace hB8:=bB;clear bB;replace h2:=h2.chg cC Z5;replace hRv:=hRv.chg cC Z5;replace hcw:=hcw.next cC KO;have zz6:=cC.size;clear cC
    refine Wn<|tN<|Qa<|sm Z Z<|st (QE Z hB8 uz69 Z siz69) Z<|sc _ Tryz.func125 Z Qo Z Z<|(Qcg g _ vo (Zl rs i) ⟨m,r.f,r.v⟩ _ h2 h1r (by have:=(Yn rs i).length_le; have:=hrl; omega)).mono ?_
    rintro e_ w7 ⟨rfl,vp,hB3,hR3,hvp,hX⟩;refine cR ?_
    have h3:=fun u=>h2.put (r:=⟨m,r.f,r.v⟩) hRv ho2 hB3 hR3 hX u
    have zz7:=hX.size;have hzc2:=hcw.size
    have hh3:RHas g vp (insR (Zl rs i) ⟨m,r.f,r.v⟩) (Ext S w w7):=⟨Vq (hh.apart.sublist (Yn rs i)) hra,.inl hSg,fun k hk=>.inr ⟨by have:=hvp k hk; omega,hR3.lt k hk⟩,fun q hq k hk=>by
     rcases Xx hq with rfl|hq
     ·exact .inl<|hh.v r (List.mem_of_getElem? hr) k hk
     ·exact .inl (hh.v q (ZK hq) k hk)⟩
    replace hcw:=hcw.next hX (fun i hi=>.inl (by rw [show i=g from hi]; exact hSg))
    refine Wn<|tN<|Qa<|sa Z Z<|Wn<|tN<|Qg ?_
    by_cases hnm:n=m
    ·subst hnm;have h4:=h3 (QH D).used;refine (rT Z Z (RPost.of (D:=QH D) ?_ hh3 hcw (hren.trans ((if_pos h14).trans ((QW hgr _).trans (if_pos Z)))))).1;have e:=Qes hsrt hgr r.f;rw [Qra hsrt hgr] at e;simp only [e] at h4;exact h4
    ·exact (rT Z Z (RPost.of (h3 _) hh3 hcw (hren.trans ((if_pos h14).trans ((QW hgr _).trans (if_neg hnm)))))).1
  | some k2 =>
   obtain ⟨⟨r2,hr2,hrn2⟩,hmin2⟩:=ho2
   refine Qj (args:=[.pointer (some ⟨g,0,none⟩),Qv n,Qv m]) 36 fz111 Z Z Z<|Qt [(0,.pointer (some ⟨g,0,none⟩)),(1,Qv n),(2,Qv m)] ?_ ⟨Z,Z,Z,tvA⟩
   have hcw:=Chg.refl (S) w
   refine Qa<|sa Z Z<|Wn<|tN<|Qe<|Qa<|sm Z Z<|sc _ fz114 Z Qo Z Z<|(KJ g D vF rs _ h hok hl).mono ?_
   clear h;rintro e_ w1 ⟨rfl,h,hC⟩;refine cR ?_;replace hcw:=hcw.next hC KO;have zz1:=hC.size;clear hC
   refine Wn<|tN<|QX Z (Z)<|Qf<|tN<|Qe<|Qa<|sm Z Z<|sc _ fz124 Z Qo Z Z (Q3 (XM m _ hm) fun w2 hb=>?_)
   replace hcw:=hcw.then_below hb;replace h:=h.bel hb;have zz2:=hb.size;clear hb
   refine st (Jk Z) Z<|Wn<|tN<|Qx Z (fun h14=>?_) (fun h14=>?_)
   ·replace h14:=Qs h14
    refine Qa<|sa Z Z<|Wn<|tN<|Qg<|tR ?_
    exact (rT Z Z (RPost.of h hh.ext hcw ((Q6 hl _).trans (if_neg (by rw [h14]; simp))))).1
   ·replace h14:=Qs h14
    refine Qf<|tN<|Qa<|sm Z Z<|sm Z Z<|sc _ fz60 Z Qo Z Z<|(Jp g (QH D) vF rs n (some i) _ h ⟨⟨r,hr,hrn⟩,hmin⟩).mono ?_
    rintro e_ w_ ⟨rfl,rfl⟩
    refine cR<|sa Z Z<|Wn<|tN<|Qe<|Qa<|sm Z Z<|st (QJ Z Z) Z<|Wn<|tN<|QX Z (decide_eq_false (by show ¬(i:Int)<0; omega)) ?_
    refine Qf<|tN<|Qa<|sm Z Z<|sm Z Z<|sc _ fz115 Z Qo Z Z<|(XO g (QH D) vF rs i r _ h hr (by rw [h.len,Zh]; omega)).mono ?_
    rintro e_ w3 ⟨rfl,vo,hB2,hR2,hvo,hX⟩;refine cR ?_;obtain ⟨_,hgr⟩:=h.fok hok' (List.mem_of_getElem? hr);rw [hrn] at hgr;have h2:=h.del hr (by rw [hrn]; exact hmin) hB2 hR2 hX (QH D).used;rw [hrn] at h2;have zz3:=hX.size;have hzc:=hcw.size;have hRv:=(h.rows r (List.mem_of_getElem? hr)).chg hX ((h.rows r (List.mem_of_getElem? hr)).ne2 h.blk QF);replace hcw:=hcw.next hX (fun i hi=>.inl (by rw [show i=g from hi]; exact hSg));have hlv:=hRv.lt;have hlo:=h2.row.lt
    have hlr:=fun q hq=>(h2.rows q hq).lt
    have hlg:=h2.blk.lt
    have hvo2:∀ k,vo.ownBlock=some k→w.heap.size≤k:=fun k hk=>by have:=hvo k hk; omega
    clear h hB2 hR2 hX hvo;refine Jm inf69 Z (fun g8 w4 hB8 hg8 hb hl8=>?_);replace hcw:=hcw.then_below hb;replace h2:=h2.bel hb;replace hRv:=hRv.bel hb;have zz4:=hb.size;clear hb
    have hne8:¬g=g8∧(∀ k,vo.ownBlock=some k→¬k=g8)∧(∀ q∈Zl rs i,∀ k,q.v.ownBlock=some k→¬k=g8):=⟨by omega,fun k hk=>by have:=hlo k hk; omega,fun q hq k hk=>by have:=hlr q hq k hk; omega⟩
    have hne9:∀ k,r.v.ownBlock=some k→¬k=g8:=fun k hk=>by have:=hlv k hk; omega
    refine QY Z Z hB8 siz69 Z (Qbi h1r) (fun w5 bB cC=>?_);replace hB8:=bB;clear bB;replace h2:=h2.chg cC Z5;replace hRv:=hRv.chg cC Z5;replace hcw:=hcw.next cC KO;have zz5:=cC.size;clear cC;have hB8':Blk w5 g8 69 #[Qv r.n,Qv r.f.last,r.v]:=hB8;clear hB8;have hB8:=hB8';clear hB8'
    refine Wn<|tN<|Qa<|sm Z Z<|sm Z Z<|sc _ fz60 Z Qo Z Z<|(Jp g _ vo (Zl rs i) m (some k2) _ h2 ⟨⟨r2,hr2,hrn2⟩,hmin2⟩).mono ?_
    rintro e_ w_ ⟨rfl,rfl⟩
    refine cR<|sa Z Z<|Wn<|tN<|Qe<|Qa<|sm Z Z<|st (Z1 Z Z) Z<|Wn<|tN<|QO Z (decide_eq_true (by show (0:Int)≤(k2:Int); omega)) ?_
    refine Qw<|sm Z Z<|sm Z Z<|sc _ fz115 Z Qo Z Z<|(XO g _ vo (Zl rs i) k2 r2 _ h2 hr2 (by have:=(Yn rs i).length_le; have:=hrl; omega)).mono ?_
    rintro e_ w6 ⟨rfl,vq,hB3,hR3,hvq,hX⟩;refine cR ?_;have h3:=h2.del hr2 (by rw [hrn2]; exact hmin2) hB3 hR3 hX (QH D).used;rw [hrn2] at h3;simp only at h3;have hlq:=hR3.lt;have hRv':=hRv.chg hX (hRv.ne2 h2.blk QF);have hB8':=hB8.chg hX (fun e=>hne8.1 (show g8=g from e).symm);have zz6:=hX.size;have hzc2:=hcw.size;replace hcw:=hcw.next hX (fun i hi=>.inl (by rw [show i=g from hi]; exact hSg))
    have hneq:¬g=g8∧(∀ k,vq.ownBlock=some k→¬k=g8)∧(∀ q∈Zl (Zl rs i) k2,∀ k,q.v.ownBlock=some k→¬k=g8):=⟨hne8.1,fun k hk=>by have:=hvq k hk; have:=hB8.lt; omega,fun q hq k hk=>hne8.2.2 q (ZK hq) k hk⟩
    have hnk:∀ a∈Zl (Zl rs i) k2,a.n≠m:=fun a ha e=>by
     have hm1:(a.n,a.f)∈mdel (mdel (QH D).files n) m:=by have e:=h3.files; simp only at e; rw [← e]; exact List.mem_map.2 ⟨a,ha,rfl⟩
     have hg1:=J0 (hsrt.del n).nodup m m;rw [if_pos rfl,JZ] at hg1
     exact hg1<|List.mem_map.2 ⟨_,hm1,e⟩
    have hg2:mget (mdel (QH D).files n) m=some r2.f:=by
     have e:=h2.files;simp only at e;refine Yj (hsrt.del n).nodup ?_;rw [← e];exact List.mem_map.2 ⟨r2,List.mem_of_getElem? hr2,by rw [hrn2]⟩
    clear h2 hRv hB8 hX hB3 hR3;have hRv:=hRv';have hB8:=hB8';clear hRv' hB8'
    refine Wn<|tN<|Qa<|sm Z Z<|st (Qk Qdj Z) Z<|KL Z Z hB8 siz9 Z (by first|decide|simp) (fun w7 bB cC=>?_)
    replace hB8:=bB;clear bB;replace hRv:=hRv.chg cC Z5;replace h3:=h3.chg cC Z5;replace hcw:=hcw.next cC KO;have zz7:=cC.size;clear cC
    refine Wn<|tN<|Qa<|sm Z Z<|st (QE Z hB8 uz69 Z siz69) Z<|sc _ Tryz.func125 Z Qo Z Z<|(Qcg g _ vq (Zl (Zl rs i) k2) ⟨m,r.f,r.v⟩ _ h3 h1r (by have:=(Yn rs i).length_le; have:=(Yn (Zl rs i) k2).length_le; have:=hrl; omega)).mono ?_
    rintro e_ w8 ⟨rfl,vp,hB3,hR3,hvp,hX⟩;refine cR ?_
    have h4:=fun u=>h3.put (r:=⟨m,r.f,r.v⟩) hRv hnk hB3 hR3 hX u
    have zz8:=hX.size;have hzc3:=hcw.size
    have hh3:RHas g vp (insR (Zl (Zl rs i) k2) ⟨m,r.f,r.v⟩) (Ext S w w8):=⟨Vq ((hh.apart.sublist (Yn rs i)).sublist (Yn _ k2)) (fun a ha=>hra a (ZK ha)),.inl hSg,fun k hk=>.inr ⟨by have:=hvp k hk; omega,hR3.lt k hk⟩,fun q hq k hk=>by
     rcases Xx hq with rfl|hq
     ·exact .inl<|hh.v r (List.mem_of_getElem? hr) k hk
     ·exact .inl (hh.v q (ZK (ZK hq)) k hk)⟩
    replace hcw:=hcw.next hX (fun i hi=>.inl (by rw [show i=g from hi]; exact hSg))
    refine Wn<|tN<|Qa<|sa Z Z<|Wn<|tN<|Qg ?_
    have hnm:n≠m:=fun e=>by subst e; rw [J0 hsrt.nodup,if_pos rfl] at hg2; cases hg2
    have e:=Qes (hsrt.del n) hg2 r.f;simp only [e] at h4;exact (rT Z Z (RPost.of (h4 _) hh3 hcw (hren.trans ((if_pos h14).trans ((QW hgr _).trans (if_neg hnm)))))).1
end
end
section
open Go.RowKit
theorem Row.storeN {w:World} {e:TypeId} {size n cap g o:Nat} {xs:List Value} (h:Row w e size (.slice (some ⟨g,o,none⟩) n cap) n xs) (j:Nat) (hj:j<n*size) (u:Value):Row (w.setCell ⟨g,o+j,none⟩ u) e size (.slice (some ⟨g,o,none⟩) n cap) n (xs.set j u):=by
 refine ⟨by rw [List.length_set]; exact h.1,?_⟩
 rcases h.2 with ⟨h0,_⟩|⟨g',off,cap',cur,fz,hv,hg,h1,h2,h3,h4,h5⟩
 ·cases h0
 ·injection hv with ha _ hc;subst hc;injection ha with ha;injection ha with hg' ho;subst hg';subst ho;have hcs:n*size≤cap*size:=Nat.mul_le_mul_right _ h1;refine .inr ⟨g,o,cap,cur.setIfInBounds (o+j) u,fz,Z,by simp [World.setCell,Array.getElem?_modify,hg],h1,h2,by simpa using h3,?_,fun j hj=>h5 j (by simpa using hj)⟩;rw [← h4]
  apply List.ext_getElem?
  intro i;have hl:=h.1;rw [← h4] at hl;rw [List.getElem?_take,List.getElem?_set]
  by_cases hi:i<n*size
  ·rw [if_pos hi,List.getElem?_drop,Array.getElem?_toList,Array.getElem?_setIfInBounds]
   by_cases hij:j=i
   ·subst hij;rw [if_pos rfl,if_pos Qb,if_pos rfl,if_pos Qb]
   ·rw [if_neg Qb,if_neg hij,List.getElem?_take,if_pos hi,List.getElem?_drop,Array.getElem?_toList]
  ·rw [if_neg hi,if_neg Qb,List.getElem?_take,if_neg hi]
theorem ssRN {P:Program} {N:Nat} {ds:List Deferred} {Q:Post} {l:Env} {w:World} {ops:Array Oper} {rest:List Oper} {x y:Operand} {ty t e:TypeId} {pos:String} {aft:Array Edge} {g o p j n c size:Nat} {v:Value} {xs:List Value} (hx:ev l x=some (.pointer (some ⟨g,p,none⟩))) (hp:p=o+j) (hy:ev l y=some v) (hR:Row w e size (.slice (some ⟨g,o,none⟩) n c) n xs) (hj:j<n*size) (hn:0<n) (ht:(P.info? t).map (·.size)=some 1) (h1:v.oneCell'=true)
  (h:∀ w',Row w' e size (.slice (some ⟨g,o,none⟩) n c) n (xs.set j v)→Chg (fun k=>k=g) w w'→WL P N ds ops Q rest l w'):WL P N ds ops Q (⟨none,.store t x y,ty,pos,aft,none⟩::rest) l w:=by
 subst hp;obtain ⟨g',o',c',hv,_,hnc,_,hc,hf⟩:=hR.form hn;injection hv with ea _ ec;injection ea with ea;injection ea with eg eo;subst eg eo ec;have hlen:=hR.1;have hcs:n*size≤c*size:=Nat.mul_le_mul_right _ hnc
 exact ss (Xs.st hx hy ht h1 (by rw [hc j _ (List.getElem?_eq_getElem Qb)]; rfl) (hf j Qb))<|h _ (hR.storeN j hj v)<|(Chg.refl (fun k=>k=g) w).setCell (p:=⟨g,o+j,none⟩) (.inl Z) v
theorem flat_set3:∀ {rs:List RRec} {i:Nat} {r:RRec} (r':RRec) (j:Nat) (u:Value),rs[i]?=some r→j<3→r'.cells=r.cells.set j u→(rs.flatMap RRec.cells).set (i*3+j) u=(rs.set i r').flatMap RRec.cells
 | [],_,_,_,_,_,h,_,_=>by simp at h
 | a::l,0,r,r',j,u,h,hj,he=>by
  simp only [List.getElem?_cons_zero,Option.some.injEq] at h;subst h;rw [List.set_cons_zero,List.flatMap_cons,List.flatMap_cons,he,Nat.zero_mul,Nat.zero_add,List.set_append_left _ _ (by rw [RRec.cells_length]; exact hj)]
 | a::l,i+1,r,r',j,u,h,hj,he=>by
  rw [List.getElem?_cons_succ] at h;rw [List.set_cons_succ,List.flatMap_cons,List.flatMap_cons,List.set_append_right _ _ (by rw [RRec.cells_length]; omega),RRec.cells_length,show (i+1)*3+j-3=i*3+j by omega,flat_set3 r' j u h hj he]
theorem RIn.upd {w w':World} {g:Nat} {D:DiskD} {vF:Value} {rs:List RRec} {i:Nat} {r r':RRec} (h:RIn w g D vF rs) (hr:rs[i]?=some r) (hn:r'.n=r.n) (hs:Rising D.files) (hB:Blk w' g 53 #[vF,.int .i64 D.limit,.int .i64 D.refused,.bool D.stops,.int .i64 D.left])
  (hR:Row w' 69 3 vF rs.length ((rs.set i r').flatMap RRec.cells)) (hrow:Row w' 119 2 r'.v r'.f.pend.length (r'.f.pend.flatMap QR)) (ho:∀ q∈Zl rs i,Row w' 119 2 q.v q.f.pend.length (q.f.pend.flatMap QR)) (u:Int) :
  RIn w' g { D with files:=sput D.files r.n r'.f,used:=u } vF (rs.set i r'):=by
 refine ⟨hB,by rw [List.length_set]; exact hR,?_,fun q hq=>?_⟩
 ·rw [sput_set hs (h.file hr),List.map_set,h.files,hn]
 ·have hi:=(List.getElem?_eq_some_iff.1 hr).1;rw [List.set_eq_take_append_cons_drop,if_pos hi] at hq
  rcases List.mem_append.1 hq with hq|hq
  ·exact ho q<|List.mem_append.2<|.inl hq
  ·rcases List.mem_cons.1 hq with rfl|hq
   ·exact hrow
   ·exact ho q<|List.mem_append.2<|.inr hq
theorem RHas.upd {g:Nat} {vF:Value} {rs:List RRec} {S T:Nat→Prop} {i:Nat} {r r':RRec} (h:RHas g vF rs S) (hr:rs[i]?=some r) (hT:∀ k,S k→T k) (hv:∀ k,r'.v.ownBlock=some k→T k) (ha:∀ q∈Zl rs i,∀ k,q.v.ownBlock=some k→¬r'.v.ownBlock=some k):RHas g vF (rs.set i r') T:=by
 have hi:=(List.getElem?_eq_some_iff.1 hr).1
 have hp:RApart (rs.take i++r::rs.drop (i+1)):=by
  have e:rs=rs.take i++r::rs.drop (i+1):=by
   obtain ⟨_,rfl⟩:=List.getElem?_eq_some_iff.1 hr;rw [← List.drop_eq_getElem_cons hi,List.take_append_drop]
  rw [← e];exact h.apart
 obtain ⟨p1,p2,p3⟩:=List.pairwise_append.1 hp;refine ⟨?_,hT _ h.g,fun k hk=>hT k (h.vF k hk),fun q hq k hk=>?_⟩
 ·rw [List.set_eq_take_append_cons_drop,if_pos hi];refine List.pairwise_append.2 ⟨p1,List.pairwise_cons.2 ⟨fun q hq k hk e=>ha q (List.mem_append.2 (.inr hq)) k e hk,(List.pairwise_cons.1 p2).2⟩,fun a ha' b hb=>?_⟩
  rcases List.mem_cons.1 hb with rfl|hb
  ·exact ha a<|List.mem_append.2<|.inl ha'
  ·exact p3 a ha' b<|List.mem_cons_of_mem _ hb
 ·rw [List.set_eq_take_append_cons_drop,if_pos hi] at hq
  rcases List.mem_append.1 hq with hq|hq
  ·exact hT k<|h.v q (List.mem_of_mem_take hq) k hk
  ·rcases List.mem_cons.1 hq with rfl|hq
   ·exact hv k hk
   ·exact hT k<|h.v q (List.mem_of_mem_drop hq) k hk
theorem Row.ne2x {w:World} {e e':TypeId} {size size' n n':Nat} {v:Value} {xs xs':List Value} {gF oF c:Nat} (h:Row w e size v n xs) (hR:Row w e' size' (.slice (some ⟨gF,oF,none⟩) n' c) n' xs') (hne:e≠e':=by decide):∀ k,v.ownBlock=some k→¬k=gF:=fun k hk e=>by
 subst e;exact h.apart_ hR hne k hk Z
theorem RDisk.mono {w:World} {g:Nat} {D:DiskD} {S T:Nat→Prop} (h:RDisk w g D S) (hT:∀ k,S k→T k):RDisk w g D T:=by
 obtain ⟨vF,rs,h1,h2⟩:=h;exact ⟨vF,rs,h1,h2.apart,hT _ h2.g,fun k hk=>hT k (h2.vF k hk),fun r hr k hk=>hT k (h2.v r hr k hk)⟩
theorem RPost.up {g:Nat} {S:Nat→Prop} {w w1 w':World} {x y:Int×DiskD} {e:Ending} (h:RPost g S w1 x e w') (hC:Chg S w w1) (hy:y=x):RPost g S w y e w':=by
 subst hy;obtain ⟨h1,h2,h3⟩:=h
 have:=hC.size
 exact ⟨h1,h2.mono (fun k hk=>hk.imp (fun e=>e) (fun e=>⟨by omega,e.2⟩)),hC.trans h3 (fun i _ h=>h)⟩
theorem bRPut (a:Nat) (d:List UInt8) (w:World):(Instr.build 119 #[(0,.int .i64 a),(1,Qv d)]).run Tryz.prog w=.ok (.agg #[.int .i64 a,Qv d]) w:=by kernel_rfl
section
variable (g:Nat) (D:DiskD) (S:Nat→Prop) (w:World) (h:RDisk w g D S)
include h
theorem Qsz (n:Key) (at_ k:Int) (hok:DOk D) (hbud:DBud D):Calls Tryz.prog 100 #[.pointer (some ⟨g,0,none⟩),Qv n,.int .i64 at_,.int .i64 k] w fun e w'=>e=.returned (.tuple #[Qv (Kd D n at_ k).1,.int .i64 (Kd D n at_ k).2])∧Below w.heap.size w w':=by
 obtain ⟨vF,rs,h,hh⟩:=h;obtain ⟨o,ho⟩:=Ky rs n
 cases o with
 | none =>
  have e:Kd D n at_ k=([],15):=by unfold Kd; rw [h.get_none ho]
  rw [e]
  refine Qj (args:=[.pointer (some ⟨g,0,none⟩),Qv n,.int .i64 at_,.int .i64 k]) 48 fz100 Z Z Z<|Qt [(0,.pointer (some ⟨g,0,none⟩)),(1,Qv n),(2,.int .i64 at_),(3,.int .i64 k)] ?_ ⟨Z,Z,Z,Z,tvA⟩
  have bw:=Below.refl w.heap.size w
  refine Qa<|sa Z Z<|sa Z Z<|Wn<|tN<|Qa<|sm Z Z<|sm Z Z<|sc _ fz60 Z Qo Z Z<|(Jp g D vF rs n none _ h ho).mono ?_
  rintro e_ w_ ⟨rfl,rfl⟩
  refine cR<|sa Z Z<|Wn<|tN<|Qe<|Qa<|sm Z Z<|st (QJ Z Z) Z<|Wn<|tN<|QO Z (Z)<|Qa<|sa Z Z<|sa Z Z<|Wn<|tN<|Qg<|tR ?_
  exact (J6 Z Z Z ⟨Z,bw⟩).1
 | some i =>
  obtain ⟨r,hr,hrn,hg,_⟩:=h.get_some hok ho
  have e:Kd D n at_ k=(if k<0∨at_<0∨(r.f.now.length:Int)<at_ then ([],1) else ((r.f.now.drop at_.toNat).take k.toNat,0)):=by unfold Kd; rw [hg]
  have hB:=h.blk;have hi:=(List.getElem?_eq_some_iff.1 hr).1;have hnl:=(hok.len hg).1;obtain ⟨gF,oF,c,rfl,hgF⟩:=h.row.reads.some_ Qb;have hrec:=h.row.reads.rec_ (f:=RRec.cells) (QZ rs) hr;have hdl:=List.length_drop (i:=at_.toNat) (l:=r.f.now);rw [e]
  refine Qj (args:=[.pointer (some ⟨g,0,none⟩),Qv n,.int .i64 at_,.int .i64 k]) 48 fz100 Z Z Z<|Qt [(0,.pointer (some ⟨g,0,none⟩)),(1,Qv n),(2,.int .i64 at_),(3,.int .i64 k)] ?_ ⟨Z,Z,Z,Z,tvA⟩
  have bw:=Below.refl w.heap.size w
  refine Qa<|sa Z Z<|sa Z Z<|Wn<|tN<|Qa<|sm Z Z<|sm Z Z<|sc _ fz60 Z Qo Z Z<|(Jp g D (.slice (some ⟨gF,oF,none⟩) rs.length c) rs n (some i) _ h ho).mono ?_
  rintro e_ w_ ⟨rfl,rfl⟩
  refine cR<|sa Z Z<|Wn<|tN<|Qe<|Qa<|sm Z Z<|st (QJ Z Z) Z<|Wn<|tN<|QX Z (decide_eq_false (by show ¬(i:Int)<0; omega)) ?_
  refine Qf<|tN<|Qa<|sm Z Z<|st (Qc Z) Z<|st (Qk Jj Z) Z<|st (Qi Z hB uz51 Z Z) Z<|sm Z Z<|st (QA (j:=i) Z Z uz51 siz69 Z Qb) Z<|st (Jw (cs:=r.cells) Z uz69 Z siz69 hrec) Z<|sc _ fz23 Z Qo Z Z (Q3 (Kp h hok hbud (List.mem_of_getElem? hr)) fun w1 hb=>?_)
  replace bw:=Ql bw hb;have zz1:=hb.size;clear hb
  refine sa Z Z<|Wn<|tN<|Qe<|Qa<|sm Z Z<|st (QJ Z Z) Z<|sb Z Z (fun h27=>?_) (fun h27=>?_)
  ·replace h27:=Qs h27;rw [if_pos (.inl h27)]
   refine gN Z Z Z Z<|gN Z Z Z Z<|st (Qm Z Z) Z<|sm Z Z<|gN Z Z Z Z<|gN Z Z Z Z<|gN Z Z Z Z<|gN Z Z Z Z<|st (Qm Z Z) Z<|Wn<|tN<|QO Z (Z)<|Qa<|sa Z Z<|sa Z Z<|Wn<|tN<|Qg<|tR ?_
   exact (J6 Z Z Z ⟨Z,bw⟩).1
  ·replace h27:=Qs h27
   refine gY Z Z Z<|sm Z Z<|gY Z Z Z<|st (QJ Z Z) Z<|st (Qq Z Z) Z<|sb Z Z (fun h31=>?_) (fun h31=>?_)
   ·replace h31:=Qs h31;rw [if_pos (.inr (.inl h31))]
    refine gN Z Z Z Z<|gN Z Z Z Z<|gN Z Z Z Z<|gN Z Z Z Z<|st (Qm Z Z) Z<|Wn<|tN<|QO Z (Z)<|Qa<|sa Z Z<|sa Z Z<|Wn<|tN<|Qg<|tR ?_
    exact (J6 Z Z Z ⟨Z,bw⟩).1
   ·replace h31:=Qs h31
    refine gY Z Z Z<|sm Z Z<|gY Z Z Z<|sm Z Z<|gY Z Z Z<|st (QP Z Z uz9) Z<|gY Z Z Z<|st (Jg Z Z) Z<|st (Qq Z Z) Z<|Wn<|tN<|Qx Z (fun h36=>?_) (fun h36=>?_)
    ·replace h36:=Qs h36;rw [if_pos (.inr (.inr Qb))]
     refine Qa<|sa Z Z<|sa Z Z<|Wn<|tN<|Qg<|tR ?_
     exact (J6 Z Z Z ⟨Z,bw⟩).1
    ·replace h36:=Qs h36;rw [if_neg Qb]
     refine Qf<|tN<|Qa<|sm Z Z<|sm Z Z<|st (Ka (i:=at_.toNat) Z Z uz9 Qb Qb) Z<|sa Z Z<|Wn<|tN<|Qe<|Qa<|sm Z Z<|sm Z Z<|st (QP Z Z uz9) Z<|st (QJ Z Z) Z<|Wn<|tN<|Qx Z (fun h43=>?_) (fun h43=>?_)
     ·replace h43:=Qs h43
      refine Qw<|sm Z Z<|sm Z Z<|st (KQ (j:=k.toNat) Z Z uz9 Qb Qb) Z<|sa Z Z<|Wn<|tN<|Qa<|sm Z Z<|sa Z Z<|sa Z Z<|Wn<|tN<|Qg ?_
      exact (J6 Z Z Z ⟨Z,bw⟩).1
     ·replace h43:=Qs h43
      refine Qf<|tN<|Qa<|sm Z Z<|sa Z Z<|sa Z Z<|Wn<|tN<|Qg ?_
      rw [List.take_of_length_le Qb];exact (J6 Z Z Z ⟨Z,bw⟩).1
theorem Qov (n:Key) (at_:Int) (d:List UInt8) (hok:DOk D) (hbud:DBud D) (hd:d.length≤1099511627776):Calls Tryz.prog 126 #[.pointer (some ⟨g,0,none⟩),Qv n,.int .i64 at_,Qv d] w (RPost g S w (Ym D n fun f=>if at_<0∨(f.now.length:Int)<at_ then (1,D) else Xe D n f at_.toNat d)):=by
 have h0:=h;obtain ⟨vF,rs,h,hh⟩:=h;have hSg:=hh.g;obtain ⟨o,ho⟩:=Ky rs n
 cases o with
 | none =>
  refine Qj (args:=[.pointer (some ⟨g,0,none⟩),Qv n,.int .i64 at_,Qv d]) 78 Tryz.func126 Z Z Z<|Qt [(0,.pointer (some ⟨g,0,none⟩)),(1,Qv n),(2,.int .i64 at_),(3,Qv d)] ?_ ⟨Z,Z,Z,Z,tvA⟩
  have bw:=Below.refl w.heap.size w
  refine Qa<|sa Z Z<|Wn<|tN<|Qa<|sm Z Z<|sm Z Z<|sc _ fz60 Z Qo Z Z<|(Jp g D vF rs n none _ h ho).mono ?_
  rintro e_ w_ ⟨rfl,rfl⟩
  refine cR<|sa Z Z<|Wn<|tN<|Qe<|Qa<|sm Z Z<|st (QJ Z Z) Z<|Wn<|tN<|QO Z (Z)<|Qa<|sa Z Z<|Wn<|tN<|Qg<|tR ?_
  exact (rT Z Z (RPost.same h0 bw (Jd (h.get_none ho) _))).1
 | some i =>
  obtain ⟨r,hr,hrn,hg,hfk⟩:=h.get_some hok ho;have hB:=h.blk;have hlt:=hB.lt;have hi:=(List.getElem?_eq_some_iff.1 hr).1;have hnl:=(hok.len hg).1;have hpb:=(hbud.pend _ _ hg).2;have href:=hbud.ref;have href0:=hok.ref;have hroom:=hok.room;have hlim:=hok.lim;have hus:=hok.used;have hmem:=List.mem_of_getElem? hr;have hra:=hh.apart.others hr;obtain ⟨gF,oF,c,rfl,hgF⟩:=h.row.reads.some_ Qb;have hRow:=h.row;have hI:=h
  have hneF:gF≠g:=fun e=>h.row.ne2 h.blk QF gF rfl e
  have hF:∀ x,Ym D n x=x r.f:=fun x=>QW hg x
  rw [hF]
  refine Qj (args:=[.pointer (some ⟨g,0,none⟩),Qv n,.int .i64 at_,Qv d]) 78 Tryz.func126 Z Z Z<|Qt [(0,.pointer (some ⟨g,0,none⟩)),(1,Qv n),(2,.int .i64 at_),(3,Qv d)] ?_ ⟨Z,Z,Z,Z,tvA⟩
  have hcw:=Chg.refl (S) w
  refine Qa<|sa Z Z<|Wn<|tN<|Qa<|sm Z Z<|sm Z Z<|sc _ fz60 Z Qo Z Z<|(Jp g D (.slice (some ⟨gF,oF,none⟩) rs.length c) rs n (some i) _ h ho).mono ?_
  rintro e_ w_ ⟨rfl,rfl⟩
  refine cR<|sa Z Z<|Wn<|tN<|Qe<|Qa<|sm Z Z<|st (QJ Z Z) Z<|Wn<|tN<|QX Z (decide_eq_false (by show ¬(i:Int)<0; omega)) ?_
  refine Qf<|tN<|Qa<|sm Z Z<|st (Qc Z) Z<|st (Qk Jj Z) Z<|st (Qi Z hB uz51 Z Z) Z<|sm Z Z<|st (QA (j:=i) Z Z uz51 siz69 Z Qb) Z<|st (Jw (cs:=r.cells) Z uz69 Z siz69 (h.row.reads.rec_ (f:=RRec.cells) (QZ rs) hr)) Z<|sc _ fz23 Z Qo Z Z (Q3 (Kp h hok hbud hmem) fun w1 hb=>?_)
  replace hcw:=hcw.then_below hb;replace hB:=hB.bel hb;replace h:=h.bel hb;replace hRow:=hRow.bel hb;have zz1:=hb.size;clear hb
  refine st (QP Z Z uz9) Z<|sa Z Z<|Wn<|tN<|Qe<|Qa<|sm Z Z<|st (QJ Z Z) Z<|sb Z Z (fun h27=>?_) (fun h27=>?_)
  ·replace h27:=Qs h27;rw [if_pos (.inl h27)]
   refine gN Z Z Z Z<|gN Z Z Z Z<|gN Z Z Z Z<|st (Qm Z Z) Z<|Wn<|tN<|QO Z (Z)<|Qa<|sa Z Z<|Wn<|tN<|Qg<|tR ?_
   exact (rT Z Z (RPost.of h hh.ext hcw Z)).1
  ·replace h27:=Qs h27
   refine gY Z Z Z<|sm Z Z<|gY Z Z Z<|sm Z Z<|gY Z Z Z<|st (Jg Z Z) Z<|st (Qq Z Z) Z<|Wn<|tN<|Qx Z (fun h31=>?_) (fun h31=>?_)
   ·replace h31:=Qs h31;rw [if_pos (.inr Qb)]
    refine Qa<|sa Z Z<|Wn<|tN<|Qg<|tR ?_
    exact (rT Z Z (RPost.of h hh.ext hcw Z)).1
   ·replace h31:=Qs h31
    obtain ⟨a,rfl⟩:∃ a:Nat,at_=(a:Int):=⟨at_.toNat,by omega⟩
    rw [if_neg Qb,Int.toNat_natCast];unfold Xe
    have hmore:((r.f.now.length+KC r.f a d:Nat):Int)=if (a:Int)+(d.length:Int) > (r.f.now.length:Int) then (a:Int)+(d.length:Int) else (r.f.now.length:Int):=by unfold KC; split <;> omega
    have hml:KC r.f a d≤d.length+a:=by unfold KC; omega
    refine Qf<|tN<|Qe<|QS (fun G=>Blk G g 53 #[.slice (some ⟨gF,oF,none⟩) rs.length c,.int .i64 D.limit,.int .i64 D.refused,.bool D.stops,.int .i64 D.left]) [0,2,4,5,6,7,8,9,11,12,13,14,1,3,10,15] [Y,Y,Y,Y,Y,Y,Y,Y,Y,Y,Y,Y,false,Y,Y,Y] Qo Qo (hB.bel (JC X4)) ?_
    obtain ⟨w2,hw_,hb⟩:=QN w1;rw [← hw_];clear hw_;have hS:=hb;replace hcw:=hcw.then_below hb;replace hB:=hB.bel hb;replace h:=h.bel hb;replace hRow:=hRow.bel hb;have zz2:=hb.size;clear hb
    refine oY Z (fun G U=>(Qd Z)) Z<|oY Z (fun G U=>(Qd Z)) Z<|oY Z (fun G U=>(Qd Z)) Z<|oY Z (fun G U=>(Qd Z)) Z<|oY Z (fun G U=>(Qd Z)) Z<|oY Z (fun G U=>(QP Z Z uz9)) Z<|oY Z (fun G U=>(Qn Z Z Qb)) Z<|oY Z (fun G U=>(Qwi (r:=((r.f.now.length+KC r.f a d:Nat):Int)) Z Z hmore)) Z<|oY Z (fun G U=>(Qd Z)) Z<|oY Z (fun G U=>(Qc Z)) Z<|oY Z (fun G U=>(Qk fa53_1 Z)) Z<|oY Z (fun G U=>(Qi Z U uz3 Z Z)) Z<|oL Z (fun Q_ hQ_ hP_=>(sc _ Tryz.func10 Z Qo Z Z (Q3 (Qga g D _ rs _ h hok hbud) fun w3 hb=>?_)))
    replace hcw:=hcw.then_below hb;replace hB:=hB.bel hb;replace h:=h.bel hb;replace hRow:=hRow.bel hb;have zz3:=hb.size;clear hb
    refine Wn<|hQ_ _ _ (hB) ?_
    clear hQ_ hP_ Q_
    refine oY Z (fun G U=>(JU Z Z Qb)) Z<|oY Z (fun G U=>(Qn Z Z Qb)) Z<|oY Z (fun G U=>(Jg Z Z)) Z<|oN<|nN<|Qx Z (fun h47=>?_) (fun h47=>?_)
    ·replace h47:=Qs h47
     have hdne:d≠[]:=by
      intro e;subst e
      have:KC r.f a []=0:=by unfold KC; simp only [List.length_nil]; omega
      omega
     rw [if_neg hdne,if_pos Qb]
     refine Qa<|sm Z Z<|sm Z Z<|st (Qc Z) Z<|st (Qk Qvm Z) Z<|st (Qi Z hB uz3 Z Z) Z<|st (Qn Z Z Qb) Z<|st (Qc Z) Z<|st (Qk Qvm Z) Z ?_
     have hgS:S g:=hSg;have hneg:=h.row.ne2 h.blk QF;refine KL Z Z hB siz3 Z Q0 (fun w4 bB cC=>?_)
     have h2:RIn w4 g { D with refused:=D.refused+1 } (.slice (some ⟨gF,oF,none⟩) rs.length c) rs:=⟨bB,h.row.chg cC hneg,h.files,h.rows_chg cC⟩
     replace hcw:=hcw.next cC (fun i hi=>.inl (by rw [show i=g from hi]; exact hSg))
     refine Wn<|tN<|Qa<|sa Z Z<|Wn<|tN<|Qg<|tR ?_
     exact (rT Z Z (RPost.of h2 hh.ext hcw Z)).1
    ·replace h47:=Qs h47
     refine Qf<|tN<|Qe<|Qa<|sm Z Z<|st (Y7 Z Z) Z<|Wn<|tN<|Qx Z (fun h57=>?_) (fun h57=>?_)
     ·replace h57:=Qs h57
      have hdne:d≠[]:=fun e=>h57 (by rw [e])
      rw [if_neg hdne,if_neg Qb];have hzc:=hcw.size;refine Qis (fun G=>Blk G g 53 #[.slice (some ⟨gF,oF,none⟩) rs.length c,.int .i64 D.limit,.int .i64 D.refused,.bool D.stops,.int .i64 D.left]∧G.cell? ⟨gF,oF+i*3+2,none⟩=some r.v) 18 [true,true,true,true,true,true,true,true,true,true,true,true,true,true,true,true,false,false] Qo Qo (⟨hB.bel (JC X4),(hRow.bel (JC X4)).reads.rec_ (f:=RRec.cells) (QZ rs) hr 2 _ Z⟩) ?_;obtain ⟨w5,hw_,hb⟩:=QN w3;rw [← hw_];clear hw_;have hS:=hb;replace hcw:=hcw.then_below hb;replace hB:=hB.bel hb;replace h:=h.bel hb;replace hRow:=hRow.bel hb;have zz5:=hb.size;clear hb
      refine pY (fun G U=>(Qd Z)) Z<|pY (fun G U=>(Qc Z)) Z<|pY (fun G U=>(Qk Jj Z)) Z<|pY (fun G U=>(Qi Z U.1 uz51 Z Z)) Z<|pY (fun G U=>(Qd Z)) Z<|pY (fun G U=>(Qd Z)) Z<|pY (fun G U=>(Qc Z)) Z<|pY (fun G U=>(Qk Jj Z)) Z<|pY (fun G U=>(Qi Z U.1 uz51 Z Z)) Z<|pY (fun G U=>(Qd Z)) Z<|pY (fun G U=>(QA (j:=i) Z Z uz51 siz69 Z Qb)) Z<|pY (fun G U=>(Qk KE Z)) Z<|pY (fun G U=>(JS Z uz67 Z U.2)) Z<|pY (fun G U=>(Qd Z)) Z<|pY (fun G U=>(Qd Z)) Z<|pY (fun G U=>(Ja Z (bRPut a d _))) Z<|pL (fun Q_ hQ_ hP_=>(Zy Z uz67 inf119 Z Z QF QF Z (fun g74 w6 hR74 hg74 hb=>?_)))
      replace hcw:=hcw.then_below hb;replace hB:=hB.bel hb;replace h:=h.bel hb;replace hRow:=hRow.bel hb;have zz6:=hb.size;clear hb;have hl74:=hR74.blt QF
      refine Wn<|hQ_ _ _ (⟨hB,hRow.reads.rec_ (f:=RRec.cells) (QZ rs) hr 2 _ Z⟩) ?_
      clear hQ_ hP_ Q_;refine pL (fun Q_ hQ_ hP_=>(Z4 Z Z uz67 inf119 Z QF (h.rows r hmem) (hR74.reads.src uz67 (by intro u hu; exact VH (a,d) u (by simpa [QR,Value.cells] using hu))) (by simp only [maxLen]; omega) Qb Z (fun v' w7 hR2 hC2 hv=>?_)));obtain ⟨av,cv,rfl,_,_⟩:=hR2.shape;have zz7:=hC2.size;have hRow':=h.row.chg hC2 (fun k hk e=>h.row.apart_ (h.rows r hmem) QF k hk e);have hB':=h.blk.chg hC2 (fun e=>(h.rows r hmem).ne2 h.blk QF _ e rfl)
      have hot:∀ q∈Zl rs i,Row w7 119 2 q.v q.f.pend.length (q.f.pend.flatMap QR):=fun q hq=>(h.rows q (ZK hq)).chg hC2 (fun k hk e=>hra q hq k hk e)
      have hnw:∀ k,(Value.slice av (r.f.pend.length+1) cv).ownBlock=some k→r.v.ownBlock=some k∨(w6.heap.size≤k∧k<w7.heap.size):=fun k hk=>by
       have hlk:=hR2.lt k hk
       rcases hv with hv|hv
       ·exact .inl (hv▸hk)
       ·rw [hv] at hk;injection hk with hk
        right; omega
      replace hcw:=hcw.next hC2 (fun k hk=>.inl (hh.v r hmem k hk))
      have hlr:=fun q hq=>(h.rows q (ZK (i:=i) hq)).lt
      clear hC2 h hB hRow;have hB:=hB';have hRow:=hRow';clear hB' hRow'
      refine Wn<|hQ_ _ _ (⟨hB,hRow.reads.rec_ (f:=RRec.cells) (QZ rs) hr 2 _ Z⟩) ?_
      clear hQ_ hP_ Q_
      refine pN<|st (QA Z Z uz51 siz69 Z Qb) Z<|st (Qk KE Z) Z<|ssRN (o:=oF) (j:=i*3+2) Z Qb Z hRow Qb Qb siz67 Z (fun w8 hR3 hC3=>?_)
      have zz8:=hC3.size;have hB3:=hB.chg hC3 (fun e=>by have:=h0; exact hneF e.symm);have hrow3:=hR2.chg hC3 (hR2.ne2x hRow)
      have hot3:∀ q∈Zl rs i,Row w8 119 2 q.v q.f.pend.length (q.f.pend.flatMap QR):=fun q hq=>(hot q hq).chg hC3 ((hot q hq).ne2x hRow)
      replace hcw:=hcw.next hC3 (fun k hk=>.inl (hh.vF k (by rw [show k=gF from hk]; rfl)))
      refine Wn<|nN<|tN<|Qa<|sa Z Z<|Wn<|tN<|Qg ?_
      rw [flat_set3 ⟨n,Xw r.f a d,.slice av (r.f.pend.length+1) cv⟩ 2 _ hr Qb (by rw [← hrn]; rfl)] at hR3;have h4:=hI.upd hr (by rw [hrn]) hok.srt hB3 hR3 (by simpa [Xw,QR,Value.cells] using hrow3) hot3 (D.used+KC r.f a d);rw [hrn] at h4;refine (rT Z Z (RPost.of h4 (hh.upd hr (fun k hk=>.inl hk) (fun k hk=>?_) (fun q hq k hk e=>?_)) hcw Z)).1
      ·rcases hnw k hk with e|e
       ·exact .inl<|hh.v r hmem k e
       ·exact .inr ⟨by omega,by omega⟩
      ·rcases hnw k e with e|e
       ·exact hra q hq k hk e
       ·have:=hlr q hq k hk
        omega
     ·replace h57:=Qs h57
      have hd0:d=[]:=by simpa using h57
      rw [if_pos hd0]
      refine Qf<|tN<|Qa<|sa Z Z<|Wn<|tN<|Qg ?_
      exact (rT Z Z (RPost.of h hh.ext hcw Z)).1
theorem Um (n:Key) (d:List UInt8) (hok:DOk D) (hbud:DBud D) (hd:d.length≤1099511627776):Calls Tryz.prog 84 #[.pointer (some ⟨g,0,none⟩),Qv n,Qv d] w (RPost g S w (QI D n d)):=by
 have h0:=h;obtain ⟨vF,rs,h,hh⟩:=h;have hSg:=hh.g
 by_cases hl:D.stops=true∧D.left=0
 ·skip
  refine Qj (args:=[.pointer (some ⟨g,0,none⟩),Qv n,Qv d]) 28 fz84 Z Z Z<|Qt [(0,.pointer (some ⟨g,0,none⟩)),(1,Qv n),(2,Qv d)] ?_ ⟨Z,Z,Z,tvA⟩
  have bw:=Below.refl w.heap.size w
  refine Qa<|sa Z Z<|Wn<|tN<|Qe<|Qa<|sm Z Z<|sc _ fz114 Z Qo Z Z<|(XF g D vF rs _ h hl).mono ?_
  rintro e_ w_ ⟨rfl,rfl⟩
  refine cR<|Wn<|tN<|QO Z (Z)<|Qa<|sa Z Z<|Wn<|tN<|Qg<|tR ?_
  exact (rT Z Z (RPost.same h0 bw (ZY hl _))).1
 obtain ⟨o,ho⟩:=Ky rs n;have hok':=Kt hok hl;have hbud':=Qby hbud
 cases o with
 | none =>
  refine Qj (args:=[.pointer (some ⟨g,0,none⟩),Qv n,Qv d]) 28 fz84 Z Z Z<|Qt [(0,.pointer (some ⟨g,0,none⟩)),(1,Qv n),(2,Qv d)] ?_ ⟨Z,Z,Z,tvA⟩
  have hcw:=Chg.refl (S) w
  refine Qa<|sa Z Z<|Wn<|tN<|Qe<|Qa<|sm Z Z<|sc _ fz114 Z Qo Z Z<|(KJ g D vF rs _ h hok hl).mono ?_
  clear h;rintro e_ w1 ⟨rfl,h,hC⟩;refine cR ?_;replace hcw:=hcw.next hC KO;have zz1:=hC.size;clear hC
  refine Wn<|tN<|QX Z (Z)<|Qf<|tN<|Qa<|sm Z Z<|sm Z Z<|sc _ fz60 Z Qo Z Z<|(Jp g (QH D) vF rs n none _ h ho).mono ?_
  rintro e_ w_ ⟨rfl,rfl⟩
  refine cR<|sa Z Z<|Wn<|tN<|Qe<|Qa<|sm Z Z<|st (QJ Z Z) Z<|Wn<|tN<|QO Z (Z)<|Qa<|sa Z Z<|Wn<|tN<|Qg<|tR ?_
  exact (rT Z Z (RPost.of h hh.ext hcw ((Q6 hl _).trans (Jd (h.get_none ho) _)))).1
 | some i =>
  obtain ⟨r,hr,hrn,hg0,_⟩:=h.get_some hok ho;have hg:mget (QH D).files n=some r.f:=Jy hg0;have hi:=(List.getElem?_eq_some_iff.1 hr).1;have hmem:=List.mem_of_getElem? hr;have hnl:=(hok.len hg0).1;obtain ⟨gF,oF,c,rfl,hgF⟩:=h.row.reads.some_ Qb
  refine Qj (args:=[.pointer (some ⟨g,0,none⟩),Qv n,Qv d]) 28 fz84 Z Z Z<|Qt [(0,.pointer (some ⟨g,0,none⟩)),(1,Qv n),(2,Qv d)] ?_ ⟨Z,Z,Z,tvA⟩
  have hcw:=Chg.refl (S) w
  refine Qa<|sa Z Z<|Wn<|tN<|Qe<|Qa<|sm Z Z<|sc _ fz114 Z Qo Z Z<|(KJ g D (.slice (some ⟨gF,oF,none⟩) rs.length c) rs _ h hok hl).mono ?_
  clear h;rintro e_ w1 ⟨rfl,h,hC⟩;refine cR ?_;replace hcw:=hcw.next hC KO;have zz1:=hC.size;clear hC
  refine Wn<|tN<|QX Z (Z)<|Qf<|tN<|Qa<|sm Z Z<|sm Z Z<|sc _ fz60 Z Qo Z Z<|(Jp g (QH D) (.slice (some ⟨gF,oF,none⟩) rs.length c) rs n (some i) _ h ho).mono ?_
  rintro e_ w_ ⟨rfl,rfl⟩
  refine cR<|sa Z Z<|Wn<|tN<|Qe<|Qa<|sm Z Z<|st (QJ Z Z) Z<|Wn<|tN<|QX Z (decide_eq_false (by show ¬(i:Int)<0; omega)) ?_
  refine Qf<|tN<|Qa<|sm Z Z<|sm Z Z<|sm Z Z<|st (Qc Z) Z<|st (Qk Jj Z) Z<|st (Qi Z h.blk uz51 Z Z) Z<|sm Z Z<|st (QA (j:=i) Z Z uz51 siz69 Z Qb) Z<|st (Jw (cs:=r.cells) Z uz69 Z siz69 (h.row.reads.rec_ (f:=RRec.cells) (QZ rs) hr)) Z<|sc _ fz23 Z Qo Z Z (Q3 (Kp h hok' hbud' hmem) fun w2 hb=>?_)
  replace hcw:=hcw.then_below hb;replace h:=h.bel hb;have zz2:=hb.size;clear hb
  refine st (QP Z Z uz9) Z<|sm Z Z<|sc _ Tryz.func126 Z Qo Z Z<|(Qov g (QH D) S _ ⟨_,rs,h,hh⟩ n r.f.now.length d hok' hbud' hd).mono ?_
  rintro e_ w3 ⟨rfl,h2,hX⟩
  refine cR<|sa Z Z<|Wn<|tN<|Qg<|(rT Z Z (RPost.up ⟨Z,h2,hX⟩ hcw ?_)).1
  refine (Q6 hl _).trans ?_;rw [QW hg,QW hg,if_neg Qb,Int.toNat_natCast]
theorem Qgb (n:Key) (hok:DOk D) (hbud:DBud D):Calls Tryz.prog 94 #[.pointer (some ⟨g,0,none⟩),Qv n] w (RPost g S w (Ku D n)):=by
 have h0:=h;obtain ⟨vF,rs,h,hh⟩:=h;have hSg:=hh.g
 by_cases hl:D.stops=true∧D.left=0
 ·skip
  refine Qj (args:=[.pointer (some ⟨g,0,none⟩),Qv n]) 35 fz94 Z Z Z<|Qt [(0,.pointer (some ⟨g,0,none⟩)),(1,Qv n)] ?_ ⟨Z,Z,tvA⟩
  have bw:=Below.refl w.heap.size w
  refine Qa<|sa Z Z<|Wn<|tN<|Qe<|Qa<|sm Z Z<|sc _ fz114 Z Qo Z Z<|(XF g D vF rs _ h hl).mono ?_
  rintro e_ w_ ⟨rfl,rfl⟩
  refine cR<|Wn<|tN<|QO Z (Z)<|Qa<|sa Z Z<|Wn<|tN<|Qg<|tR ?_
  exact (rT Z Z (RPost.same h0 bw (ZY hl _))).1
 obtain ⟨o,ho⟩:=Ky rs n;have hok':=Kt hok hl;have hbud':=Qby hbud
 cases o with
 | none =>
  refine Qj (args:=[.pointer (some ⟨g,0,none⟩),Qv n]) 35 fz94 Z Z Z<|Qt [(0,.pointer (some ⟨g,0,none⟩)),(1,Qv n)] ?_ ⟨Z,Z,tvA⟩
  have hcw:=Chg.refl (S) w
  refine Qa<|sa Z Z<|Wn<|tN<|Qe<|Qa<|sm Z Z<|sc _ fz114 Z Qo Z Z<|(KJ g D vF rs _ h hok hl).mono ?_
  clear h;rintro e_ w1 ⟨rfl,h,hC⟩;refine cR ?_;replace hcw:=hcw.next hC KO;have zz1:=hC.size;clear hC
  refine Wn<|tN<|QX Z (Z)<|Qf<|tN<|Qa<|sm Z Z<|sm Z Z<|sc _ fz60 Z Qo Z Z<|(Jp g (QH D) vF rs n none _ h ho).mono ?_
  rintro e_ w_ ⟨rfl,rfl⟩
  refine cR<|sa Z Z<|Wn<|tN<|Qe<|Qa<|sm Z Z<|st (QJ Z Z) Z<|Wn<|tN<|QO Z (Z)<|Qa<|sa Z Z<|Wn<|tN<|Qg<|tR ?_
  exact (rT Z Z (RPost.of h hh.ext hcw ((Q6 hl _).trans (Jd (h.get_none ho) _)))).1
 | some i =>
  obtain ⟨r,hr,hrn,hg0,_⟩:=h.get_some hok ho;have hg:mget (QH D).files n=some r.f:=Jy hg0;have hi:=(List.getElem?_eq_some_iff.1 hr).1;have hmem:=List.mem_of_getElem? hr;have hra:=hh.apart.others hr;obtain ⟨gF,oF,c,rfl,hgF⟩:=h.row.reads.some_ Qb
  have hneF:gF≠g:=fun e=>h.row.ne2 h.blk QF gF rfl e
  refine Qj (args:=[.pointer (some ⟨g,0,none⟩),Qv n]) 35 fz94 Z Z Z<|Qt [(0,.pointer (some ⟨g,0,none⟩)),(1,Qv n)] ?_ ⟨Z,Z,tvA⟩
  have hcw:=Chg.refl (S) w
  refine Qa<|sa Z Z<|Wn<|tN<|Qe<|Qa<|sm Z Z<|sc _ fz114 Z Qo Z Z<|(KJ g D (.slice (some ⟨gF,oF,none⟩) rs.length c) rs _ h hok hl).mono ?_
  clear h;rintro e_ w1 ⟨rfl,h,hC⟩;refine cR ?_;replace hcw:=hcw.next hC KO;have zz1:=hC.size;clear hC
  refine Wn<|tN<|QX Z (Z)<|Qf<|tN<|Qa<|sm Z Z<|sm Z Z<|sc _ fz60 Z Qo Z Z<|(Jp g (QH D) (.slice (some ⟨gF,oF,none⟩) rs.length c) rs n (some i) _ h ho).mono ?_
  rintro e_ w_ ⟨rfl,rfl⟩
  refine cR<|sa Z Z<|Wn<|tN<|Qe<|Qa<|sm Z Z<|st (QJ Z Z) Z<|Wn<|tN<|QX Z (decide_eq_false (by show ¬(i:Int)<0; omega)) ?_
  refine Qf<|tN<|H5 (fun G=>Blk G g 53 #[.slice (some ⟨gF,oF,none⟩) rs.length c,.int .i64 (QH D).limit,.int .i64 (QH D).refused,.bool (QH D).stops,.int .i64 (QH D).left]∧G.rangeAt gF (oF+i*3) r.cells) 13 [true,true,true,true,true,true,true,true,true,true,true,true,false] Qo Qo (⟨(h.bel (JC X4)).blk,(h.bel (JC X4)).row.reads.rec_ (f:=RRec.cells) (QZ rs) hr⟩) ?_
  obtain ⟨w2,hw_,hb⟩:=QN w1;rw [← hw_];clear hw_;have hS:=hb;replace hcw:=hcw.then_below hb;replace h:=h.bel hb;have zz2:=hb.size;clear hb
  refine pY (fun G U=>(Qd Z)) Z<|pY (fun G U=>(Qc Z)) Z<|pY (fun G U=>(Qk Jj Z)) Z<|pY (fun G U=>(Qi Z U.1 uz51 Z Z)) Z<|pY (fun G U=>(Qd Z)) Z<|pY (fun G U=>(Qd Z)) Z<|pY (fun G U=>(Qc Z)) Z<|pY (fun G U=>(Qk Jj Z)) Z<|pY (fun G U=>(Qi Z U.1 uz51 Z Z)) Z<|pY (fun G U=>(Qd Z)) Z<|pY (fun G U=>(QA (j:=i) Z Z uz51 siz69 Z Qb)) Z<|pY (fun G U=>(Jw (cs:=r.cells) Z uz69 Z siz69 U.2)) Z<|pL (fun Q_ hQ_ hP_=>(sc _ fz23 Z Qo Z Z (Q3 (Kp h hok' hbud' hmem) fun w3 hb=>?_)))
  replace hcw:=hcw.then_below hb;replace h:=h.bel hb;have zz3:=hb.size;clear hb
  refine Wn<|hQ_ _ _ (⟨h.blk,h.row.reads.rec_ (f:=RRec.cells) (QZ rs) hr⟩) ?_
  clear hQ_ hP_ Q_
  refine pN<|st (QA (j:=i) Z Z uz51 siz69 Z Qb) Z<|st (Qk Vu Z) Z<|ssRN (o:=oF) (j:=i*3+1) Z Qb Z h.row Qb Qb siz9 Z (fun w4 hR3 hC3=>?_)
  have hzc:=hcw.size;have zz4:=hC3.size;have hB3:=h.blk.chg hC3 (fun e=>hneF e.symm)
  have hot3:∀ q∈Zl rs i,Row w4 119 2 q.v q.f.pend.length (q.f.pend.flatMap QR):=fun q hq=>(h.rows q (ZK hq)).chg hC3 ((h.rows q (ZK hq)).ne2x h.row)
  replace hcw:=hcw.next hC3 (fun k hk=>.inl (hh.vF k (by rw [show k=gF from hk]; rfl)));have hI:=h;clear h hC3
  refine Wn<|nN<|Qa<|sm Z Z<|st (Qc Z) Z<|st (Qk Jj Z) Z<|st (Qi Z hB3 uz51 Z Z) Z<|sm Z Z<|st (QA (j:=i) Z Z uz51 siz69 Z Qb) Z<|st (Qk KE Z) Z<|ssRN (o:=oF) (j:=i*3+2) Z Qb Z hR3 Qb Qb siz67 Z (fun w5 hR4 hC3=>?_)
  have zz5:=hC3.size;have hB4:=hB3.chg hC3 (fun e=>hneF e.symm)
  have hot4:∀ q∈Zl rs i,Row w5 119 2 q.v q.f.pend.length (q.f.pend.flatMap QR):=fun q hq=>(hot3 q hq).chg hC3 ((hot3 q hq).ne2x hR3)
  replace hcw:=hcw.next hC3 (fun k hk=>.inl (hh.vF k (by rw [show k=gF from hk]; rfl)))
  refine Wn<|tN<|Qa<|sa Z Z<|Wn<|tN<|Qg ?_
  rw [flat_set3 ⟨n,⟨r.f.now,r.f.now,r.f.pend⟩,r.v⟩ 1 _ hr Qb (by rw [← hrn]; rfl),flat_set3 (r:=⟨n,⟨r.f.now,r.f.now,r.f.pend⟩,r.v⟩) ⟨n,KY r.f,.slice none 0 0⟩ 2 _ (by rw [List.getElem?_set_self hi]) Qb rfl,List.set_set] at hR4;have h4:=hI.upd (r':=⟨n,KY r.f,.slice none 0 0⟩) hr (by rw [hrn]) hok'.srt hB4 hR4 (Row.nil _ _ _) hot4 (QH D).used;rw [hrn] at h4;exact (rT Z Z (RPost.of h4 (hh.upd hr (fun k hk=>.inl hk) (fun k hk=>by simp [Value.ownBlock] at hk) (fun q hq k hk e=>by simp [Value.ownBlock] at e)) hcw ((Q6 hl _).trans (QW hg _)))).1
theorem Qxa (n:Key) (at_:Int) (b:UInt8) (hok:DOk D) (hbud:DBud D):Calls Tryz.prog 20 #[.pointer (some ⟨g,0,none⟩),Qv n,.int .i64 at_,.int .u8 b.toNat] w (RPost g S w (rotM D n at_ b)):=by
 have h0:=h;obtain ⟨vF,rs,h,hh⟩:=h;have hSg:=hh.g;obtain ⟨o,ho⟩:=Ky rs n
 cases o with
 | none =>
  refine Qj (args:=[.pointer (some ⟨g,0,none⟩),Qv n,.int .i64 at_,.int .u8 b.toNat]) 58 Tryz.func20 Z Z Z<|Qt [(0,.pointer (some ⟨g,0,none⟩)),(1,Qv n),(2,.int .i64 at_),(3,.int .u8 b.toNat)] ?_ ⟨Z,Z,Z,Z,tvA⟩
  have bw:=Below.refl w.heap.size w
  refine Qa<|sa Z Z<|Wn<|tN<|Qa<|sm Z Z<|sm Z Z<|sc _ fz60 Z Qo Z Z<|(Jp g D vF rs n none _ h ho).mono ?_
  rintro e_ w_ ⟨rfl,rfl⟩
  refine cR<|sa Z Z<|Wn<|tN<|Qe<|Qa<|sm Z Z<|st (QJ Z Z) Z<|Wn<|tN<|QO Z (Z)<|Qa<|sa Z Z<|Wn<|tN<|Qg<|tR ?_
  exact (rT Z Z (RPost.same h0 bw (Jd (h.get_none ho) _))).1
 | some i =>
  obtain ⟨r,hr,hrn,hg,_⟩:=h.get_some hok ho;have hB:=h.blk;have hi:=(List.getElem?_eq_some_iff.1 hr).1;have hmem:=List.mem_of_getElem? hr;have hnl:=(hok.len hg).1;have hra:=hh.apart.others hr;obtain ⟨gF,oF,c,rfl,hgF⟩:=h.row.reads.some_ Qb
  have hneF:gF≠g:=fun e=>h.row.ne2 h.blk QF gF rfl e
  have hF:rotM D n at_ b=(if at_<0∨(r.f.now.length:Int)≤at_ then (1,D) else (0,{ D with files:=sput D.files n ⟨r.f.now.set at_.toNat b,r.f.now.set at_.toNat b,[]⟩ })):=QW hg _
  rw [hF]
  refine Qj (args:=[.pointer (some ⟨g,0,none⟩),Qv n,.int .i64 at_,.int .u8 b.toNat]) 58 Tryz.func20 Z Z Z<|Qt [(0,.pointer (some ⟨g,0,none⟩)),(1,Qv n),(2,.int .i64 at_),(3,.int .u8 b.toNat)] ?_ ⟨Z,Z,Z,Z,tvA⟩
  have hcw:=Chg.refl (S) w
  refine Qa<|sa Z Z<|Wn<|tN<|Qa<|sm Z Z<|sm Z Z<|sc _ fz60 Z Qo Z Z<|(Jp g D (.slice (some ⟨gF,oF,none⟩) rs.length c) rs n (some i) _ h ho).mono ?_
  rintro e_ w_ ⟨rfl,rfl⟩
  refine cR<|sa Z Z<|Wn<|tN<|Qe<|Qa<|sm Z Z<|st (QJ Z Z) Z<|Wn<|tN<|QX Z (decide_eq_false (by show ¬(i:Int)<0; omega)) ?_
  refine Qf<|tN<|Qa<|sm Z Z<|st (Qc Z) Z<|st (Qk Jj Z) Z<|st (Qi Z h.blk uz51 Z Z) Z<|sm Z Z<|st (QA (j:=i) Z Z uz51 siz69 Z Qb) Z<|st (Jw (cs:=r.cells) Z uz69 Z siz69 (h.row.reads.rec_ (f:=RRec.cells) (QZ rs) hr)) Z<|sc _ fz23 Z Qo Z Z (Q3 (Kp h hok hbud hmem) fun w1 hb=>?_)
  replace hcw:=hcw.then_below hb;replace h:=h.bel hb;replace hB:=hB.bel hb;have zz1:=hb.size;clear hb
  refine sa Z Z<|Wn<|tN<|Qe<|Qa<|sm Z Z<|st (QJ Z Z) Z<|sb Z Z (fun h26=>?_) (fun h26=>?_)
  ·replace h26:=Qs h26;rw [if_pos (.inl h26)]
   refine gN Z Z Z Z<|gN Z Z Z Z<|gN Z Z Z Z<|gN Z Z Z Z<|st (Qm Z Z) Z<|Wn<|tN<|QO Z (Z)<|Qa<|sa Z Z<|Wn<|tN<|Qg<|tR ?_
   exact (rT Z Z (RPost.of h hh.ext hcw Z)).1
  ·replace h26:=Qs h26
   refine gY Z Z Z<|sm Z Z<|gY Z Z Z<|sm Z Z<|gY Z Z Z<|st (QP Z Z uz9) Z<|gY Z Z Z<|st (Z1 Z Z) Z<|st (Qq Z Z) Z<|Wn<|tN<|Qx Z (fun h31=>?_) (fun h31=>?_)
   ·replace h31:=Qs h31;rw [if_pos (.inr Qb)]
    refine Qa<|sa Z Z<|Wn<|tN<|Qg<|tR ?_
    exact (rT Z Z (RPost.of h hh.ext hcw Z)).1
   ·replace h31:=Qs h31
    obtain ⟨a,rfl⟩:∃ a:Nat,at_=(a:Int):=⟨at_.toNat,by omega⟩
    rw [if_neg Qb,Int.toNat_natCast]
    have hset:r.f.now.set a b=r.f.now.take a++[b]++r.f.now.drop (a+1):=by rw [List.set_eq_take_append_cons_drop,if_pos Qb]; simp
    have htl:(r.f.now.take a).length=a:=by rw [List.length_take]; omega
    have hdl:=List.length_drop (i:=a+1) (l:=r.f.now)
    refine Qf<|tN<|QS (fun G=>Blk G g 53 #[.slice (some ⟨gF,oF,none⟩) rs.length c,.int .i64 D.limit,.int .i64 D.refused,.bool D.stops,.int .i64 D.left]) [0,1,2,3,4,5,6,7,8,12,13,14,15,9,10,11,16,17,18,19] [Y,Y,Y,Y,Y,Y,Y,Y,Y,Y,Y,Y,Y,false,false,Y,Y,Y,Y,false] Qo Qo (hB.bel (JC X4)) ?_
    obtain ⟨w2,hw_,hb⟩:=QN w1;rw [← hw_];clear hw_;have hS:=hb;replace hcw:=hcw.then_below hb;replace h:=h.bel hb;replace hB:=hB.bel hb;have zz2:=hb.size;clear hb
    refine oY Z (fun G U=>(Qd Z)) Z<|oY Z (fun G U=>(Qc Z)) Z<|oY Z (fun G U=>(Qk Jj Z)) Z<|oY Z (fun G U=>(Qi Z U uz51 Z Z)) Z<|oY Z (fun G U=>(Qd Z)) Z<|oY Z (fun G U=>(Qd Z)) Z<|oY Z (fun G U=>(Qd Z)) Z<|oY Z (fun G U=>(KQ (j:=a) Z Z uz9 Z Qb)) Z<|oY Z (fun G U=>(Qd Z)) Z<|oY Z (fun G U=>(Qd Z)) Z<|oY Z (fun G U=>(Qd Z)) Z<|oY Z (fun G U=>(Qn Z Z Qb)) Z<|oY Z (fun G U=>(Ka (i:=a+1) Z Z uz9 Qb Qb)) Z<|oL Z (fun Q_ hQ_ hP_=>(Zy Z uz114 inf5 Z Z QF QF Z (fun g41 w3 hR41 hg41 hb=>?_)))
    replace hcw:=hcw.then_below hb;replace h:=h.bel hb;replace hB:=hB.bel hb;have zz3:=hb.size;clear hb;have hl41:=hR41.blt QF
    refine Wn<|hQ_ _ _ (hB) ?_
    clear hQ_ hP_ Q_;refine oL Z (fun Q_ hQ_ hP_=>(st (Zs (s:=[b]) Z uz114 uz5 uz9 hR41.reads) Z (Wn (hQ_ _ _ (hB) ?_))));clear hQ_ hP_ Q_;have h1l:([b]:List UInt8).length=1:=rfl
    have hcl:(r.f.now.take a++[b]).length=a+1:=by rw [List.length_append,htl]; rfl
    refine oY Z (fun G U=>(JV Z Z Qb)) Z<|oY Z (fun G U=>(JV Z Z Qb)) Z ?_
    rw [← hset]
    refine oY Z (fun G U=>(QA Z Z uz51 siz69 Z Qb)) Z<|oY Z (fun G U=>(Qk Vu Z)) Z<|oL Z (fun Q_ hQ_ hP_=>(ssRN (o:=oF) (j:=i*3+1) Z Qb Z h.row Qb Qb siz9 Z (fun w4 hR3 hC3=>?_)))
    have hzc:=hcw.size;have zz4:=hC3.size;have hB3:=h.blk.chg hC3 (fun e=>hneF e.symm)
    have hot3:∀ q∈Zl rs i,Row w4 119 2 q.v q.f.pend.length (q.f.pend.flatMap QR):=fun q hq=>(h.rows q (ZK hq)).chg hC3 ((h.rows q (ZK hq)).ne2x h.row)
    replace hcw:=hcw.next hC3 (fun k hk=>.inl (hh.vF k (by rw [show k=gF from hk]; rfl)));have hI:=h;clear h hC3 hB;have hB:=hB3
    refine Wn<|hQ_ _ _ (hB) ?_
    clear hQ_ hP_ Q_
    refine oN<|nN<|Qa<|sm Z Z<|st (Qc Z) Z<|st (Qk Jj Z) Z<|st (Qi Z hB3 uz51 Z Z) Z<|sm Z Z<|st (QA (j:=i) Z Z uz51 siz69 Z Qb) Z<|st (Qk KE Z) Z<|ssRN (o:=oF) (j:=i*3+2) Z Qb Z hR3 Qb Qb siz67 Z (fun w5 hR4 hC3=>?_)
    have zz5:=hC3.size;have hB4:=hB3.chg hC3 (fun e=>hneF e.symm)
    have hot4:∀ q∈Zl rs i,Row w5 119 2 q.v q.f.pend.length (q.f.pend.flatMap QR):=fun q hq=>(hot3 q hq).chg hC3 ((hot3 q hq).ne2x hR3)
    replace hcw:=hcw.next hC3 (fun k hk=>.inl (hh.vF k (by rw [show k=gF from hk]; rfl)))
    refine Wn<|tN<|Qa<|sa Z Z<|Wn<|tN<|Qg ?_
    rw [flat_set3 ⟨n,⟨r.f.now.set a b,r.f.now,r.f.pend⟩,r.v⟩ 1 _ hr Qb (by rw [← hrn]; rfl),flat_set3 (r:=⟨n,⟨r.f.now.set a b,r.f.now,r.f.pend⟩,r.v⟩) ⟨n,⟨r.f.now.set a b,r.f.now.set a b,[]⟩,.slice none 0 0⟩ 2 _ (by rw [List.getElem?_set_self hi]) Qb rfl,List.set_set] at hR4;have h4:=hI.upd (r':=⟨n,⟨r.f.now.set a b,r.f.now.set a b,[]⟩,.slice none 0 0⟩) hr (by rw [hrn]) hok.srt hB4 hR4 (Row.nil _ _ _) hot4 D.used;rw [hrn] at h4;exact (rT Z Z (RPost.of h4 (hh.upd hr (fun k hk=>.inl hk) (fun k hk=>by simp [Value.ownBlock] at hk) (fun q hq k hk e=>by simp [Value.ownBlock] at e)) hcw Z)).1
end
end
section
open Go.RowKit
theorem UT {l:List (Nat×List UInt8)} {j:Nat} {p:Nat×List UInt8} (h:l[j]?=some p):pendLen (l.take (j+1))=pendLen (l.take j)+p.2.length:=by
 rw [QK h,ZX]
 rfl
theorem Qax (l:List (Nat×List UInt8)) (j:Nat):pendLen (l.take j)≤pendLen l:=by
 have:=ZX (l.take j) (l.drop j)
 rw [List.take_append_drop] at this
 omega
theorem crashBytes_snoc:∀ (l:List (Nat×List UInt8)) (s:List UInt8) (p:Nat×List UInt8) (k:Nat),crashBytes s (l++[p]) k=JH (crashBytes s l k) (min p.1 (crashBytes s l k).length) (p.2.take (k-pendLen l))
 | [],s,p,k=>rfl
 | q::l,s,p,k=>by
  show crashBytes _ (l++[p]) _=_
  rw [crashBytes_snoc l]
  show JH _ _ _=JH (crashBytes _ l _) _ (p.2.take (k-(q.2.length+pendLen l)))
  rw [show k-min k q.2.length-pendLen l=k-(q.2.length+pendLen l) by omega]
  rfl
theorem crash_full:∀ (l:List (Nat×List UInt8)) (s:List UInt8) (k:Nat),PutsOk s.length l→pendLen l≤k→crashBytes s l k=bytesM s l
 | [],_,_,_,_=>rfl
 | p::l,s,k,hp,hk=>by
  unfold pendLen at hk;have h1:=Jz (l:=s) (d:=p.2) hp.1
  show crashBytes (JH s (min p.1 s.length) (p.2.take k)) l _=_
  rw [List.take_of_length_le Qb,Nat.min_eq_left hp.1];exact crash_full l _ _ (by rw [h1]; exact hp.2.2) Qb
theorem UH {l:List (Nat×List UInt8)} {s:List UInt8} {k j:Nat} {p:Nat×List UInt8} (h:PutsOk s.length l) (hj:l[j]?=some p) (hk:0<k-pendLen (l.take j)):p.1≤(crashBytes s (l.take j) k).length:=by
 have hpo:=putsOk_at l s j p h hj
 have hpt:PutsOk s.length (l.take j):=by
  clear hj hk hpo
  induction l generalizing s j with
  | nil=>rw [List.take_nil]; trivial
  | cons q l ih =>
   cases j with
   | zero=>trivial
   | succ j =>
    have h1:=Jz (l:=s) (d:=q.2) h.1;refine ⟨h.1,h.2.1,?_⟩
    have:=ih (s:=JH s q.1 q.2) (j:=j) (by rw [h1]; exact h.2.2)
    rwa [h1] at this
 rw [crash_full _ _ _ hpt Qb];exact hpo.1
theorem Ju {l:List (Nat×List UInt8)} {s:List UInt8} {k j:Nat} {p:Nat×List UInt8} (h:PutsOk s.length l) (hj:l[j]?=some p):crashBytes s (l.take (j+1)) k=JH (crashBytes s (l.take j) k) p.1 (p.2.take (k-pendLen (l.take j))):=by
 rw [QK hj,crashBytes_snoc]
 by_cases hk:0<k-pendLen (l.take j)
 ·rw [Nat.min_eq_left (UH h hj hk)]
 ·rw [show k-pendLen (l.take j)=0 by omega,List.take_zero,ZL,ZL]
theorem X9 {l:List (Nat×List UInt8)} {s:List UInt8} (k j:Nat) (h:PutsOk s.length l):(crashBytes s (l.take j) k).length≤(bytesM s l).length:=by
 refine Nat.le_trans ?_<|bytesM_take_le l s j h
 refine crash_len _ _ _ _ ?_<|Nat.le_refl _
 induction l generalizing s j with
 | nil=>rw [List.take_nil]; trivial
 | cons q l ih =>
  cases j with
  | zero=>trivial
  | succ j =>
   have h1:=Jz (l:=s) (d:=q.2) h.1;refine ⟨h.1,h.2.1,?_⟩
   have:=ih (s:=JH s q.1 q.2) j (by rw [h1]; exact h.2.2)
   rwa [h1] at this
theorem Qnf (p n q:Int) (hq:p.tmod n=q):(q+n)%n=p%n:=by rw [← hq,Qfk]
def crR:List RRec→List Int→List RRec
  | [],_=>[]
  | r::l,ks=>⟨r.n,ZQ r.f (KP r.f (ks.head?.getD 0)),.slice none 0 0⟩::crR l ks.tail
theorem crR_length:∀ (l:List RRec) (ks:List Int),(crR l ks).length=l.length
 | [],_=>rfl
 | r::l,ks=>by rw [crR,List.length_cons,List.length_cons,crR_length l]
theorem crR_at:∀ (l:List RRec) (ks:List Int) (i:Nat) (r:RRec),l[i]?=some r→(crR l ks)[i]?=some ⟨r.n,ZQ r.f (KP r.f (ks[i]?.getD 0)),.slice none 0 0⟩
 | [],_,_,_,h=>by simp at h
 | q::l,ks,0,r,h=>by
  simp only [List.getElem?_cons_zero,Option.some.injEq] at h;subst h
  cases ks <;> rfl
 | q::l,ks,i+1,r,h=>by
  simp only [List.getElem?_cons_succ] at h
  have:=crR_at l ks.tail i r h
  simp only [crR,List.getElem?_cons_succ,this]
  cases ks <;> rfl
theorem crR_map:∀ (l:List RRec) (ks:List Int),(crR l ks).map (fun r=>(r.n,r.f))=crashAll (l.map (fun r=>(r.n,r.f))) ks
 | [],_=>rfl
 | r::l,ks=>by simp only [crR,List.map_cons,crashAll,crR_map l]
theorem crR_nil:∀ (l:List RRec) (ks:List Int) (r:RRec),r∈crR l ks→r.v=.slice none 0 0∧r.f.pend=[]
 | [],_,_,h=>by cases h
 | a::l,ks,r,h=>by
  rcases List.mem_cons.1 h with h|h
  ·subst h; exact ⟨rfl,rfl⟩
  ·exact crR_nil l _ r h
def midR (rs:List RRec) (ks:List Int) (i:Nat):List RRec:=(crR rs ks).take i++rs.drop i
theorem midR_at {rs:List RRec} {ks:List Int} {i:Nat} {r:RRec} (h:rs[i]?=some r):(midR rs ks i)[i]?=some r:=by
 have hi:=(List.getElem?_eq_some_iff.1 h).1;have hl:=crR_length rs ks;unfold midR;rw [List.getElem?_append_right (by rw [List.length_take]; omega),List.length_take,Nat.min_eq_left Qb,Nat.sub_self,List.getElem?_drop];exact h
theorem Qkd {rs:List RRec} {ks:List Int} {i:Nat} {r:RRec} (h:rs[i]?=some r):(midR rs ks i).set i ⟨r.n,ZQ r.f (KP r.f (ks[i]?.getD 0)),.slice none 0 0⟩=midR rs ks (i+1):=by
 have hi:=(List.getElem?_eq_some_iff.1 h).1;have hl:=crR_length rs ks
 have hlt:((crR rs ks).take i).length=i:=by rw [List.length_take]; omega
 have hd:rs.drop i=r::rs.drop (i+1):=by
  obtain ⟨hj,rfl⟩:=List.getElem?_eq_some_iff.1 h;exact List.drop_eq_getElem_cons hj
 unfold midR;rw [List.set_append_right _ _ Qb,hlt,Nat.sub_self,hd,List.set_cons_zero,QK (crR_at _ ks _ _ h),List.append_assoc]
 rfl
theorem Quv (rs:List RRec) (ks:List Int):midR rs ks rs.length=crR rs ks:=by
 unfold midR;rw [List.drop_length,List.append_nil,List.take_of_length_le (by rw [crR_length]; omega)]
theorem Qke {rs:List RRec} {ks:List Int} {i:Nat} (hi:i≤rs.length):(midR rs ks i).length=rs.length:=by
 unfold midR;rw [List.length_append,List.length_take,crR_length,List.length_drop]
 omega
theorem Reads.rec_' {α:Type} {f:α→List Value} {k:Nat} {w:World} {g o c n:Nat} {l:List α} (h:Reads w k (.slice (some ⟨g,o,none⟩) n c) n (l.flatMap f)) (hk:∀ a∈l,(f a).length=k) (hn:l.length=n) {j:Nat} {x:α} (hx:l[j]?=some x):w.rangeAt g (o+j*k) (f x):=by
 subst hn;exact h.rec_ hk hx
def PutsAt (w:World) (rs:List RRec):Prop:=∀ r∈rs,Row w 119 2 r.v r.f.pend.length (r.f.pend.flatMap QR)
theorem PutsAt.bel {w w':World} {rs:List RRec} (h:PutsAt w rs) (hb:Below w.heap.size w w'):PutsAt w' rs:=fun r hr=>(h r hr).bel hb
theorem PutsAt.chg {w w':World} {rs:List RRec} {T:Nat→Prop} (h:PutsAt w rs) (hC:Chg T w w') (hn:∀ r∈rs,∀ k,r.v.ownBlock=some k→¬T k):PutsAt w' rs:=fun r hr=>(h r hr).chg hC (hn r hr)
section
variable (g:Nat) (D:DiskD) (S:Nat→Prop) (w:World) (h:RDisk w g D S)
include h
theorem Qoy (v:Value) (ks:List Int) (hok:DOk D) (hbud:DBud D) (hK:Reads w 1 v ks.length (ks.map fun k=>.int .i64 k)) (hKS:0<ks.length→∀ k,v.ownBlock=some k→¬S k) :
  Calls Tryz.prog 17 #[.pointer (some ⟨g,0,none⟩),v] w fun e w'=>e=.returned (.tuple #[])∧RDisk w' g (Ut D ks) (Ext S w w')∧Chg S w w':=by
 obtain ⟨vF,rs,h,hh⟩:=h;have hSg:=hh.g;have hB:=h.blk;have hR:=h.row;have hV:PutsAt w rs:=h.rows;have hlt:=hB.lt;obtain ⟨ak,ck,rfl,hck,hck2⟩:=hK.shape;obtain ⟨a,c,rfl,hc1,hc2⟩:=h.row.shape;have hnn:=h.row.nle;have hkn:=hK.nle
 refine Qj (args:=[.pointer (some ⟨g,0,none⟩),.slice ak ks.length ck]) 136 Tryz.func17 Z Z Z<|Qt [(0,.pointer (some ⟨g,0,none⟩)),(1,.slice ak ks.length ck)] ?_ ⟨Z,Z,tvA⟩
 have hcw:=Chg.refl (S) w
 refine Qa<|sm Z Z<|st (Qc Z) Z<|st (Qk Qhq Z) Z<|KL Z Z hB siz4 Z Q0 (fun w1 hB1 hC1=>?_)
 have hR1:=hR.chg hC1 (hR.ne2 hB QF);have hV1:=hV.chg hC1 (fun r hr=>(hV r hr).ne2 hB QF);have hK1:=hK.chgS hC1 (fun h0 k hk e=>hKS h0 k hk (by rw [e]; exact hSg));have hcw1:=hcw.next hC1 (fun k hk=>.inl (by rw [show k=g from hk]; exact hSg));clear hB hR hV hK hcw;have hB:=hB1;have hR:=hR1;have hV:=hV1;have hK:=hK1;have hcw:=hcw1;clear hB1 hR1 hV1 hK1 hcw1 hC1
 refine Wn<|tN<|Qa<|sa Z Z<|Wn<|tN<|Qp<|JG (fun nw2_ lw2_ w2=>∃ i:Nat,nw2_=rs.length-i∧lw2_=([(0,.pointer (some ⟨g,0,none⟩)),(1,.slice ak ks.length ck),(4,.int .i64 i)]:Env)∧(i≤rs.length)∧(Chg S w w2)∧(Blk w2 g 53 #[.slice a rs.length c,.int .i64 D.limit,.int .i64 D.refused,.bool false,.int .i64 D.left])∧(Row w2 69 3 (.slice a rs.length c) rs.length ((midR rs ks i).flatMap RRec.cells))∧(PutsAt w2 rs)∧(Reads w2 1 (.slice ak ks.length ck) ks.length (ks.map fun k=>.int .i64 k))) _ ⟨_,⟨0,Z,Z,Nat.zero_le _,hcw,hB,hR,hV,hK⟩,⟨Z,Z,Z,tvA⟩⟩ ?_
 clear hcw hB hR hV hK;rintro nw2_ lw2_ w2 ⟨i,rfl,rfl,hi,hcw,hB,hR,hV,hK⟩;have hlt_hB_w2:=hB.lt;have hzc:=hcw.size
 refine Qe<|Qa<|sm Z Z<|sm Z Z<|st (Qc Z) Z<|st (Qk Jj Z) Z<|st (Qi Z hB uz51 Z Z) Z<|st (QT Z Z uz51) Z<|st (QJ Z Z) Z<|Wn<|tN<|Qx Z (fun h20=>?_) (fun h20=>?_)
 ·replace h20:=Qs h20
  obtain ⟨⟨n,f,v⟩,hx⟩:∃ x,rs[i]?=some x:=⟨_,List.getElem?_eq_getElem Qb⟩
  have hmem:=List.mem_of_getElem? hx;obtain ⟨av,cv,hve,_,_⟩:=(hV _ hmem).shape;simp only at hve;subst hve;obtain ⟨hfk,hg⟩:=h.fok hok hmem;simp only at hfk hg;have hpl:=(hbud.pend _ _ hg).1;have hln:=(hok.len hg).1;have hpn:=(hV _ hmem).nle;simp only at hpn;obtain ⟨gF,oF,c',hv,hgF⟩:=hR.reads.some_ Qb;injection hv with e1 _ e3;subst e1 e3
  have hneF:gF≠g:=fun e=>h.row.ne2 h.blk QF gF rfl e
  have hSF:S gF:=hh.vF gF rfl;have hml:=Qke (ks:=ks) hi;have hxm:=midR_at (ks:=ks) hx
  obtain ⟨pk,hpk⟩:∃ pk,ks[i]?.getD 0=pk:=⟨_,rfl⟩
  obtain ⟨kp,hkp⟩:∃ kp,KP f pk=kp:=⟨_,rfl⟩
  have hkpl:=Qcx (f:=f) pk hpl;rw [hkp] at hkpl
  refine Qf<|tN<|Qe<|Qp<|Qa<|sa Z Z<|Wn<|tN<|Qe<|Qa<|sa Z Z<|Wn<|tN<|Qp<|JG (fun nw3_ lw3_ w3=>∃ j:Nat,nw3_=f.pend.length-j∧lw3_=([(0,.pointer (some ⟨g,0,none⟩)),(1,.slice ak ks.length ck),(4,.int .i64 i),(5,.int .i64 (pendLen (f.pend.take j))),(6,.int .i64 j)]:Env)∧(j≤f.pend.length)∧(Chg S w w3)∧(Blk w3 g 53 #[.slice (some ⟨gF,oF,none⟩) rs.length c,.int .i64 D.limit,.int .i64 D.refused,.bool false,.int .i64 D.left])∧(Row w3 69 3 (.slice (some ⟨gF,oF,none⟩) rs.length c) rs.length ((midR rs ks i).flatMap RRec.cells))∧(PutsAt w3 rs)∧(Reads w3 1 (.slice ak ks.length ck) ks.length (ks.map fun k=>.int .i64 k))) _ ⟨_,⟨0,Z,Z,by omega,hcw,hB,hR,hV,hK⟩,⟨Z,Z,Z,Z,Z,tvA⟩⟩ ?_
  clear hcw hB hR hV hK;rintro nw3_ lw3_ w3 ⟨j,rfl,rfl,hj,hcw,hB,hR,hV,hK⟩;have hlt_hB_w3:=hB.lt;have hpt:=Qax f.pend j;have hzc2:=hcw.size
  refine Qe<|Qa<|sm Z Z<|sm Z Z<|st (Qc Z) Z<|st (Qk Jj Z) Z<|st (Qi Z hB uz51 Z Z) Z<|sm Z Z<|st (QA Z Z uz51 siz69 Z Qb) Z<|st (Qk KE Z) Z<|st (JS Z uz67 Z (hR.reads.rec_' (f:=RRec.cells) (QZ _) hml hxm 2 _ Z)) Z<|st (QT Z Z uz67) Z<|st (QJ Z Z) Z<|Wn<|tN<|Qx Z (fun h33=>?_) (fun h33=>?_)
  ·replace h33:=Qs h33
   obtain ⟨p,hp⟩:∃ p,f.pend[j]?=some p:=⟨_,List.getElem?_eq_getElem Qb⟩
   have hrow:=(hV _ hmem).reads;simp only at hrow;obtain ⟨gp,op,c',hv,hgp⟩:=hrow.some_ Qb;injection hv with e1 _ e3;subst e1 e3;have hpm:=Ug (List.mem_of_getElem? hp);have hcell:=hrow.rec_ (f:=QR) (fun a _=>J7 a) hp
   refine Qf<|tN<|Qe<|Qp<|Qw<|sm Z Z<|sm Z Z<|st (Qc Z) Z<|st (Qk Jj Z) Z<|st (Qi Z hB uz51 Z Z) Z<|sm Z Z<|st (QA Z Z uz51 siz69 Z Qb) Z<|st (Qk KE Z) Z<|st (JS Z uz67 Z (hR.reads.rec_' (f:=RRec.cells) (QZ _) hml hxm 2 _ Z)) Z<|sm Z Z<|st (QA Z Z uz67 siz119 Z Qb) Z<|st (Qk J3 Z) Z<|st (JS Z uz9 Z (hcell 1 _ Z)) Z<|st (QP Z Z uz9) Z<|st (Qn Z Z Qb) Z<|sa Z Z<|Wn<|bN<|tN<|Qw<|sm Z Z<|st (Qn Z Z Qb) Z<|sa Z Z<|Wn<|tN ⟨_,_,?_,⟨j+1,Z,Z,by omega,hcw,hB,hR,hV,hK⟩,⟨Z,Z,Z,by rw [UT hp,Int.natCast_add]; rfl,Z,tvA⟩⟩
   omega
  ·replace h33:=Qs h33
   obtain rfl:j=f.pend.length:=by omega
   rw [List.take_length]
   refine QQ<|tE<|tE<|bH<|tN<|Qa<|sa Z Z<|Wn<|tN<|Qe<|Qa<|sm Z Z<|sm Z Z<|st (QT Z Z uz42) Z<|st (QJ Z Z) Z<|Wn<|tN<|Qx Z (fun h54=>?_) (fun h54=>?_)
   ·replace h54:=Qs h54;obtain ⟨gk,ok_,ck',hvk,hgk⟩:=hK.some_ Qb;injection hvk with hak _ _
    have hKs:Reads w3 1 (.slice (some ⟨gk,ok_,none⟩) ks.length ck) ks.length (ks.map fun k=>.int .i64 k):=by rw [← hak]; exact hK
    have hkx:ks[i]?=some pk:=by
     rw [← hpk,List.getElem?_eq_getElem Qb]
     rfl
    have hkx2:(ks.map fun k=>Value.int .i64 k)[i]?=some (.int .i64 pk):=by rw [List.getElem?_map,hkx]; rfl
    have ht1:=Int.tmod_lt_of_pos pk (b:=(pendLen f.pend:Int)+1) Qb;have ht2:=Int.lt_tmod_of_pos pk (b:=(pendLen f.pend:Int)+1) Qb
    obtain ⟨q,hq⟩:∃ q,pk.tmod ((pendLen f.pend:Int)+1)=q:=⟨_,rfl⟩
    rw [hq] at ht1 ht2
    have hqk:(q+(pendLen f.pend:Int)+1)%((pendLen f.pend:Int)+1)=(kp:Int):=by
     rw [Int.add_assoc,Qnf _ _ _ hq,← hkp];unfold KP;rw [Int.toNat_of_nonneg (Int.emod_nonneg _ Qb)]
     rfl
    refine Qw<|sm Z Z<|sm Z Z<|st (QA (j:=i) (by rw [← hak]; rfl) Z uz42 siz3 Z Qb) Z ?_
    refine st (JS Z uz3 Z (by rw [Nat.mul_one]; exact hKs.cellAt Qb hkx2)) Z ?_
    refine sm Z Z<|st (Qn Z Z Qb) Z<|st (Qlr Z Z Qb hq) Z<|sm Z Z<|st (Qn Z Z Qb) Z<|st (Qn Z Z Qb) Z<|sm Z Z<|st (Qn Z Z Qb) Z<|st (Yc Z Z Qb Qb) Z ?_
    rw [hqk]
    refine sa Z Z<|Wn<|tN<|Qa<|sm Z Z<|st (Qc Z) Z<|st (Qk Jj Z) Z<|st (Qi Z hB uz51 Z Z) Z<|sm Z Z<|st (QA Z Z uz51 siz69 Z Qb) Z<|st (Qk Vu Z) Z<|st (JS Z uz9 Z (hR.reads.rec_' (f:=RRec.cells) (QZ _) hml hxm 1 _ Z)) Z<|sa Z Z<|Wn<|tN<|Qe<|Qa<|sa Z Z<|Wn<|tN<|Qp ?_
    obtain ⟨wB,hwB⟩:∃ G:World,G=w3:=⟨_,rfl⟩
    have hbB:Below wB.heap.size wB w3:=by rw [hwB]; exact Below.refl _ _
    have hwBz:w.heap.size≤wB.heap.size:=by rw [hwB]; exact hcw.size
    have hgB:g<wB.heap.size:=by rw [hwB]; exact hB.lt
    rw [← hwB] at hB hR hV hK;clear hwB;refine JG (fun nw4_ lw4_ w4=>∃ m:Nat,nw4_=f.pend.length-m∧lw4_=([(0,.pointer (some ⟨g,0,none⟩)),(1,.slice ak ks.length ck),(4,.int .i64 i),(7,.int .i64 ((kp-pendLen (f.pend.take m):Nat):Int)),(8,Qv (crashBytes f.last (f.pend.take m) kp)),(9,.int .i64 m)]:Env)∧(m≤f.pend.length)∧(Chg S w w4)∧(Below wB.heap.size wB w4)) _ ⟨_,⟨0,Z,Z,by omega,hcw,hbB⟩,⟨Z,Z,Z,by first|rfl|(rw [hkp0]; rfl),Z,Z,tvA⟩⟩ ?_;clear hcw hbB;rintro nw4_ lw4_ w4 ⟨m,rfl,rfl,hm,hcw,hbB⟩;have hz_hbB_w4:=hbB.size;have hzc3:=hcw.size;have hcl:=X9 (s:=f.last) kp m hfk.puts;rw [← hfk.now] at hcl
    refine Qe<|Qa<|sm Z Z<|sm Z Z<|st (Qc Z) Z<|st (Qk Jj Z) Z<|st (Qi Z (hB.bel hbB) uz51 Z Z) Z<|sm Z Z<|st (QA Z Z uz51 siz69 Z Qb) Z<|st (Qk KE Z) Z<|st (JS Z uz67 Z ((hR.bel hbB).reads.rec_' (f:=RRec.cells) (QZ _) hml hxm 2 _ Z)) Z<|st (QT Z Z uz67) Z<|st (QJ Z Z) Z<|Wn<|tN<|Qx Z (fun h86=>?_) (fun h86=>?_)
    ·replace h86:=Qs h86
     obtain ⟨p,hp⟩:∃ p,f.pend[m]?=some p:=⟨_,List.getElem?_eq_getElem Qb⟩
     have hrow:=((hV _ hmem).bel hbB).reads;simp only at hrow;obtain ⟨gp,op,c',hv,hgp⟩:=hrow.some_ Qb;injection hv with e1 _ e3;subst e1 e3;have hpm:=Ug (List.mem_of_getElem? hp);have hcell:=hrow.rec_ (f:=QR) (fun a _=>J7 a) hp
     have hkn2:((kp-pendLen (f.pend.take (m+1)):Nat):Int)=((kp-pendLen (f.pend.take m):Nat):Int)-((p.2.take (kp-pendLen (f.pend.take m))).length:Int):=by rw [UT hp,List.length_take]; omega
     have hltp:(p.2.take (kp-pendLen (f.pend.take m))).length≤p.2.length:=by rw [List.length_take]; omega
     have hltk:(p.2.take (kp-pendLen (f.pend.take m))).length≤kp-pendLen (f.pend.take m):=by rw [List.length_take]; omega
     refine Qf<|tN<|Qe<|Qp<|Qa<|sm Z Z<|st (Qc Z) Z<|st (Qk Jj Z) Z<|st (Qi Z (hB.bel hbB) uz51 Z Z) Z<|sm Z Z<|st (QA Z Z uz51 siz69 Z Qb) Z<|st (Qk KE Z) Z<|st (JS Z uz67 Z ((hR.bel hbB).reads.rec_' (f:=RRec.cells) (QZ _) hml hxm 2 _ Z)) Z<|sm Z Z<|st (QA Z Z uz67 siz119 Z Qb) Z<|st (Jw (cs:=QR p) Z uz119 Z siz119 hcell) Z<|Jm inf119 Z (fun g10 w5 hB10 hg10 hb hl10=>?_)
     replace hcw:=hcw.then_below hb;replace hbB:=Ql hbB hb;have zz5:=hb.size;clear hb;refine QY Z Z hB10 siz119 Z Z (fun w6 bB cC=>?_);replace hB10:=bB;clear bB;replace hcw:=hcw.next cC KO;replace hbB:=Ji hbB cC Qb;have zz6:=cC.size;clear cC;have hB10':Blk w6 g10 119 #[.int .i64 p.1,Qv p.2]:=hB10;clear hB10;have hB10:=hB10';clear hB10'
     refine Wn<|tN<|Qe<|Qa<|st (Qk J3 Z) Z<|st (Qi Z hB10 uz9 Z Z) Z<|st (QP Z Z uz9) Z<|sm Z Z<|st (Jg Z Z) Z<|Wn<|tN<|Qx Z (fun h104=>?_) (fun h104=>?_)
     ·replace h104:=Qs h104
      refine Qw<|st (Qk J3 Z) Z<|st (Qi Z hB10 uz9 Z Z) Z<|sm Z Z<|st (KQ Z Z uz9 Z Qb) Z<|st (Qk J3 Z) Z<|KL Z Z hB10 siz9 Z (by first|decide|simp) (fun w7 bB cC=>?_)
      replace hB10:=bB;clear bB;replace hcw:=hcw.next cC KO;replace hbB:=Ji hbB cC Qb;have zz7:=cC.size;clear cC
      refine Wn<|tN<|Qa<|sm Z Z<|st (Qk J3 Z) Z<|st (Qi Z hB10 uz9 Z Z) Z<|st (QP Z Z uz9) Z<|st (JU Z Z Qb) Z<|sa Z Z<|Wn<|tN<|Qa<|st (Qk J3 Z) Z<|st (Qi Z hB10 uz9 Z Z) Z<|st (Y7 Z Z) Z<|Wn<|tN<|Qx Z (fun h117=>?_) (fun h117=>?_)
      ·replace h117:=Qs h117
       refine Qw<|sm Z Z<|st (QE Z hB10 uz119 Z siz119) Z ?_
       have hpp:0<kp-pendLen (f.pend.take m):=by
        rcases Nat.eq_zero_or_pos (kp-pendLen (f.pend.take m)) with e|e
        ·rw [e,List.take_zero] at h117;exact absurd Z h117
        ·exact e
       have hov:=fun G:World=>Uz (crashBytes f.last (f.pend.take m) kp) (p.1,p.2.take (kp-pendLen (f.pend.take m))) G (UH (p:=p) hfk.puts hp hpp) Qb (by simp only; omega)
       simp only at hov
       obtain ⟨so,hso⟩:∃ s,JH (crashBytes f.last (f.pend.take m) kp) p.1 (p.2.take (kp-pendLen (f.pend.take m)))=s:=⟨_,rfl⟩
       rw [hso] at hov;refine sc _ fz49 Z Qo Z Z (Q3 (hov _) fun w8 hb=>?_);replace hcw:=hcw.then_below hb;replace hbB:=Ql hbB hb;replace hB10:=hB10.bel hb;have zz8:=hb.size;clear hb
       refine sa Z Z<|Wn<|bN<|tN<|Qw<|sm Z Z<|st (Qn Z Z Qb) Z<|sa Z Z<|Wn<|tN ⟨_,_,?_,⟨m+1,Z,Z,by omega,hcw,hbB⟩,⟨Z,Z,Z,by rw [hkn2]; rfl,by first|(rw [Ju hfk.puts hp,hso] <;> rfl)|(rw [Ju hfk.puts hp,h117,ZL] <;> rfl),Z,tvA⟩⟩
       omega
      ·replace h117:=Qs h117;replace h117:=Classical.not_not.1 h117
       refine Qf<|bN<|tN<|Qw<|sm Z Z<|st (Qn Z Z Qb) Z<|sa Z Z<|Wn<|tN ⟨_,_,?_,⟨m+1,Z,Z,by omega,hcw,hbB⟩,⟨Z,Z,Z,by rw [hkn2]; rfl,by first|(rw [Ju hfk.puts hp,hso] <;> rfl)|(rw [Ju hfk.puts hp,h117,ZL] <;> rfl),Z,tvA⟩⟩
       omega
     ·replace h104:=Qs h104;have htk:p.2.take (kp-pendLen (f.pend.take m))=p.2:=List.take_of_length_le Qb;rw [← htk] at hB10
      refine Qf<|tN<|Qa<|sm Z Z<|st (Qk J3 Z) Z<|st (Qi Z hB10 uz9 Z Z) Z<|st (QP Z Z uz9) Z<|st (JU Z Z Qb) Z<|sa Z Z<|Wn<|tN<|Qa<|st (Qk J3 Z) Z<|st (Qi Z hB10 uz9 Z Z) Z<|st (Y7 Z Z) Z<|Wn<|tN<|Qx Z (fun h117=>?_) (fun h117=>?_)
      ·replace h117:=Qs h117
       refine Qw<|sm Z Z<|st (QE Z hB10 uz119 Z siz119) Z ?_
       have hpp:0<kp-pendLen (f.pend.take m):=by
        rcases Nat.eq_zero_or_pos (kp-pendLen (f.pend.take m)) with e|e
        ·rw [e,List.take_zero] at h117;exact absurd Z h117
        ·exact e
       have hov:=fun G:World=>Uz (crashBytes f.last (f.pend.take m) kp) (p.1,p.2.take (kp-pendLen (f.pend.take m))) G (UH (p:=p) hfk.puts hp hpp) Qb (by simp only; omega)
       simp only at hov
       obtain ⟨so,hso⟩:∃ s,JH (crashBytes f.last (f.pend.take m) kp) p.1 (p.2.take (kp-pendLen (f.pend.take m)))=s:=⟨_,rfl⟩
       rw [hso] at hov;refine sc _ fz49 Z Qo Z Z (Q3 (hov _) fun w9 hb=>?_);replace hcw:=hcw.then_below hb;replace hbB:=Ql hbB hb;replace hB10:=hB10.bel hb;have zz9:=hb.size;clear hb
       refine sa Z Z<|Wn<|bN<|tN<|Qw<|sm Z Z<|st (Qn Z Z Qb) Z<|sa Z Z<|Wn<|tN ⟨_,_,?_,⟨m+1,Z,Z,by omega,hcw,hbB⟩,⟨Z,Z,Z,by rw [hkn2]; rfl,by first|(rw [Ju hfk.puts hp,hso] <;> rfl)|(rw [Ju hfk.puts hp,h117,ZL] <;> rfl),Z,tvA⟩⟩
       omega
      ·replace h117:=Qs h117;replace h117:=Classical.not_not.1 h117
       refine Qf<|bN<|tN<|Qw<|sm Z Z<|st (Qn Z Z Qb) Z<|sa Z Z<|Wn<|tN ⟨_,_,?_,⟨m+1,Z,Z,by omega,hcw,hbB⟩,⟨Z,Z,Z,by rw [hkn2]; rfl,by first|(rw [Ju hfk.puts hp,hso] <;> rfl)|(rw [Ju hfk.puts hp,h117,ZL] <;> rfl),Z,tvA⟩⟩
       omega
    ·replace h86:=Qs h86
     obtain rfl:m=f.pend.length:=by omega
     rw [List.take_length];replace hB:=hB.bel hbB;replace hR:=hR.bel hbB;replace hV:=hV.bel hbB;replace hK:=hK.belowAll hbB
     refine QQ<|tE<|tE<|bH<|tN<|Qa<|sm Z Z<|st (Qc Z) Z<|st (Qk Jj Z) Z<|st (Qi Z hB uz51 Z Z) Z<|sm Z Z<|sm Z Z<|st (QA Z Z uz51 siz69 Z Qb) Z<|st (Qk Vu Z) Z<|ssRN (o:=oF) (j:=i*3+1) Z Qb Z hR Qb Qb siz9 Z (fun w10 hR3 hC3=>?_)
     have hB3:=hB.chg hC3 (fun e=>hneF e.symm);have hV3:=hV.chg hC3 (fun q hq=>(hV q hq).ne2x hR);have hK3:=hK.chgS hC3 (fun h0 k hk e=>hKS h0 k hk (by rw [show k=gF from e]; exact hSF));replace hcw:=hcw.next hC3 (fun k hk=>.inl (by rw [show k=gF from hk]; exact hSF));clear hB hR hV hK hC3;have hB:=hB3;have hV:=hV3;have hK:=hK3;clear hB3 hV3 hK3
     refine Wn<|tN<|Qw<|sm Z Z<|st (Qc Z) Z<|st (Qk Jj Z) Z<|st (Qi Z hB uz51 Z Z) Z<|sm Z Z<|st (QA Z Z uz51 siz69 Z Qb) Z<|st (Qk KE Z) Z<|ssRN (o:=oF) (j:=i*3+2) Z Qb Z hR3 Qb Qb siz67 Z (fun w11 hR4 hC3=>?_)
     have hB3:=hB.chg hC3 (fun e=>hneF e.symm);have hV3:=hV.chg hC3 (fun q hq=>(hV q hq).ne2x hR3);have hK3:=hK.chgS hC3 (fun h0 k hk e=>hKS h0 k hk (by rw [show k=gF from e]; exact hSF));replace hcw:=hcw.next hC3 (fun k hk=>.inl (by rw [show k=gF from hk]; exact hSF));clear hB hV hK hC3;have hB:=hB3;have hV:=hV3;have hK:=hK3;clear hB3 hV3 hK3;rw [flat_set3 ⟨n,⟨crashBytes f.last f.pend kp,f.now,f.pend⟩,.slice av f.pend.length cv⟩ 1 _ hxm Qb rfl,flat_set3 (r:=⟨n,⟨crashBytes f.last f.pend kp,f.now,f.pend⟩,.slice av f.pend.length cv⟩) ⟨n,ZQ f kp,.slice none 0 0⟩ 2 _ (by rw [List.getElem?_set_self Qb]) Qb rfl,List.set_set] at hR4;have hR':=hR4;rw [← hkp,← hpk,Qkd hx] at hR';clear hR4 hR3
     refine Wn<|bN<|tN<|Qw<|sm Z Z<|st (Qn Z Z Qb) Z<|sa Z Z<|Wn<|tN ⟨_,_,?_,⟨i+1,Z,Z,by omega,hcw,hB,hR',hV,hK⟩,⟨Z,Z,Z,tvA⟩⟩
     omega
   ·replace h54:=Qs h54
    obtain rfl:pk=0:=by rw [← hpk,List.getElem?_eq_none Qb]; rfl
    have hk0:KP f 0=0:=by unfold KP; rw [Int.zero_emod]; rfl
    have hkp0:kp=0:=by rw [← hkp,hk0]
    refine Qf<|tN<|Qa<|sm Z Z<|st (Qc Z) Z<|st (Qk Jj Z) Z<|st (Qi Z hB uz51 Z Z) Z<|sm Z Z<|st (QA Z Z uz51 siz69 Z Qb) Z<|st (Qk Vu Z) Z<|st (JS Z uz9 Z (hR.reads.rec_' (f:=RRec.cells) (QZ _) hml hxm 1 _ Z)) Z<|sa Z Z<|Wn<|tN<|Qe<|Qa<|sa Z Z<|Wn<|tN<|Qp ?_
    obtain ⟨wB,hwB⟩:∃ G:World,G=w3:=⟨_,rfl⟩
    have hbB:Below wB.heap.size wB w3:=by rw [hwB]; exact Below.refl _ _
    have hwBz:w.heap.size≤wB.heap.size:=by rw [hwB]; exact hcw.size
    have hgB:g<wB.heap.size:=by rw [hwB]; exact hB.lt
    rw [← hwB] at hB hR hV hK;clear hwB;refine JG (fun nw12_ lw12_ w12=>∃ m:Nat,nw12_=f.pend.length-m∧lw12_=([(0,.pointer (some ⟨g,0,none⟩)),(1,.slice ak ks.length ck),(4,.int .i64 i),(7,.int .i64 ((kp-pendLen (f.pend.take m):Nat):Int)),(8,Qv (crashBytes f.last (f.pend.take m) kp)),(9,.int .i64 m)]:Env)∧(m≤f.pend.length)∧(Chg S w w12)∧(Below wB.heap.size wB w12)) _ ⟨_,⟨0,Z,Z,by omega,hcw,hbB⟩,⟨Z,Z,Z,by first|rfl|(rw [hkp0]; rfl),Z,Z,tvA⟩⟩ ?_;clear hcw hbB;rintro nw12_ lw12_ w12 ⟨m,rfl,rfl,hm,hcw,hbB⟩;have hz_hbB_w12:=hbB.size;have hzc3:=hcw.size;have hcl:=X9 (s:=f.last) kp m hfk.puts;rw [← hfk.now] at hcl
    refine Qe<|Qa<|sm Z Z<|sm Z Z<|st (Qc Z) Z<|st (Qk Jj Z) Z<|st (Qi Z (hB.bel hbB) uz51 Z Z) Z<|sm Z Z<|st (QA Z Z uz51 siz69 Z Qb) Z<|st (Qk KE Z) Z<|st (JS Z uz67 Z ((hR.bel hbB).reads.rec_' (f:=RRec.cells) (QZ _) hml hxm 2 _ Z)) Z<|st (QT Z Z uz67) Z<|st (QJ Z Z) Z<|Wn<|tN<|Qx Z (fun h86=>?_) (fun h86=>?_)
    ·replace h86:=Qs h86
     obtain ⟨p,hp⟩:∃ p,f.pend[m]?=some p:=⟨_,List.getElem?_eq_getElem Qb⟩
     have hrow:=((hV _ hmem).bel hbB).reads;simp only at hrow;obtain ⟨gp,op,c',hv,hgp⟩:=hrow.some_ Qb;injection hv with e1 _ e3;subst e1 e3;have hpm:=Ug (List.mem_of_getElem? hp);have hcell:=hrow.rec_ (f:=QR) (fun a _=>J7 a) hp
     have hkn2:((kp-pendLen (f.pend.take (m+1)):Nat):Int)=((kp-pendLen (f.pend.take m):Nat):Int)-((p.2.take (kp-pendLen (f.pend.take m))).length:Int):=by rw [UT hp,List.length_take]; omega
     have hltp:(p.2.take (kp-pendLen (f.pend.take m))).length≤p.2.length:=by rw [List.length_take]; omega
     have hltk:(p.2.take (kp-pendLen (f.pend.take m))).length≤kp-pendLen (f.pend.take m):=by rw [List.length_take]; omega
     refine Qf<|tN<|Qe<|Qp<|Qa<|sm Z Z<|st (Qc Z) Z<|st (Qk Jj Z) Z<|st (Qi Z (hB.bel hbB) uz51 Z Z) Z<|sm Z Z<|st (QA Z Z uz51 siz69 Z Qb) Z<|st (Qk KE Z) Z<|st (JS Z uz67 Z ((hR.bel hbB).reads.rec_' (f:=RRec.cells) (QZ _) hml hxm 2 _ Z)) Z<|sm Z Z<|st (QA Z Z uz67 siz119 Z Qb) Z<|st (Jw (cs:=QR p) Z uz119 Z siz119 hcell) Z<|Jm inf119 Z (fun g10 w13 hB10 hg10 hb hl10=>?_)
     replace hcw:=hcw.then_below hb;replace hbB:=Ql hbB hb;have zz13:=hb.size;clear hb;refine QY Z Z hB10 siz119 Z Z (fun w14 bB cC=>?_);replace hB10:=bB;clear bB;replace hcw:=hcw.next cC KO;replace hbB:=Ji hbB cC Qb;have zz14:=cC.size;clear cC;have hB10':Blk w14 g10 119 #[.int .i64 p.1,Qv p.2]:=hB10;clear hB10;have hB10:=hB10';clear hB10'
     refine Wn<|tN<|Qe<|Qa<|st (Qk J3 Z) Z<|st (Qi Z hB10 uz9 Z Z) Z<|st (QP Z Z uz9) Z<|sm Z Z<|st (Jg Z Z) Z<|Wn<|tN<|Qx Z (fun h104=>?_) (fun h104=>?_)
     ·replace h104:=Qs h104
      refine Qw<|st (Qk J3 Z) Z<|st (Qi Z hB10 uz9 Z Z) Z<|sm Z Z<|st (KQ Z Z uz9 Z Qb) Z<|st (Qk J3 Z) Z<|KL Z Z hB10 siz9 Z (by first|decide|simp) (fun w15 bB cC=>?_)
      replace hB10:=bB;clear bB;replace hcw:=hcw.next cC KO;replace hbB:=Ji hbB cC Qb;have zz15:=cC.size;clear cC
      refine Wn<|tN<|Qa<|sm Z Z<|st (Qk J3 Z) Z<|st (Qi Z hB10 uz9 Z Z) Z<|st (QP Z Z uz9) Z<|st (JU Z Z Qb) Z<|sa Z Z<|Wn<|tN<|Qa<|st (Qk J3 Z) Z<|st (Qi Z hB10 uz9 Z Z) Z<|st (Y7 Z Z) Z<|Wn<|tN<|Qx Z (fun h117=>?_) (fun h117=>?_)
      ·replace h117:=Qs h117
       refine Qw<|sm Z Z<|st (QE Z hB10 uz119 Z siz119) Z ?_
       have hpp:0<kp-pendLen (f.pend.take m):=by
        rcases Nat.eq_zero_or_pos (kp-pendLen (f.pend.take m)) with e|e
        ·rw [e,List.take_zero] at h117;exact absurd Z h117
        ·exact e
       have hov:=fun G:World=>Uz (crashBytes f.last (f.pend.take m) kp) (p.1,p.2.take (kp-pendLen (f.pend.take m))) G (UH (p:=p) hfk.puts hp hpp) Qb (by simp only; omega)
       simp only at hov
       obtain ⟨so,hso⟩:∃ s,JH (crashBytes f.last (f.pend.take m) kp) p.1 (p.2.take (kp-pendLen (f.pend.take m)))=s:=⟨_,rfl⟩
       rw [hso] at hov;refine sc _ fz49 Z Qo Z Z (Q3 (hov _) fun w16 hb=>?_);replace hcw:=hcw.then_below hb;replace hbB:=Ql hbB hb;replace hB10:=hB10.bel hb;have zz16:=hb.size;clear hb
       refine sa Z Z<|Wn<|bN<|tN<|Qw<|sm Z Z<|st (Qn Z Z Qb) Z<|sa Z Z<|Wn<|tN ⟨_,_,?_,⟨m+1,Z,Z,by omega,hcw,hbB⟩,⟨Z,Z,Z,by rw [hkn2]; rfl,by first|(rw [Ju hfk.puts hp,hso] <;> rfl)|(rw [Ju hfk.puts hp,h117,ZL] <;> rfl),Z,tvA⟩⟩
       omega
      ·replace h117:=Qs h117;replace h117:=Classical.not_not.1 h117
       refine Qf<|bN<|tN<|Qw<|sm Z Z<|st (Qn Z Z Qb) Z<|sa Z Z<|Wn<|tN ⟨_,_,?_,⟨m+1,Z,Z,by omega,hcw,hbB⟩,⟨Z,Z,Z,by rw [hkn2]; rfl,by first|(rw [Ju hfk.puts hp,hso] <;> rfl)|(rw [Ju hfk.puts hp,h117,ZL] <;> rfl),Z,tvA⟩⟩
       omega
     ·replace h104:=Qs h104;have htk:p.2.take (kp-pendLen (f.pend.take m))=p.2:=List.take_of_length_le Qb;rw [← htk] at hB10
      refine Qf<|tN<|Qa<|sm Z Z<|st (Qk J3 Z) Z<|st (Qi Z hB10 uz9 Z Z) Z<|st (QP Z Z uz9) Z<|st (JU Z Z Qb) Z<|sa Z Z<|Wn<|tN<|Qa<|st (Qk J3 Z) Z<|st (Qi Z hB10 uz9 Z Z) Z<|st (Y7 Z Z) Z<|Wn<|tN<|Qx Z (fun h117=>?_) (fun h117=>?_)
      ·replace h117:=Qs h117
       refine Qw<|sm Z Z<|st (QE Z hB10 uz119 Z siz119) Z ?_
       have hpp:0<kp-pendLen (f.pend.take m):=by
        rcases Nat.eq_zero_or_pos (kp-pendLen (f.pend.take m)) with e|e
        ·rw [e,List.take_zero] at h117;exact absurd Z h117
        ·exact e
       have hov:=fun G:World=>Uz (crashBytes f.last (f.pend.take m) kp) (p.1,p.2.take (kp-pendLen (f.pend.take m))) G (UH (p:=p) hfk.puts hp hpp) Qb (by simp only; omega)
       simp only at hov
       obtain ⟨so,hso⟩:∃ s,JH (crashBytes f.last (f.pend.take m) kp) p.1 (p.2.take (kp-pendLen (f.pend.take m)))=s:=⟨_,rfl⟩
       rw [hso] at hov;refine sc _ fz49 Z Qo Z Z (Q3 (hov _) fun w17 hb=>?_);replace hcw:=hcw.then_below hb;replace hbB:=Ql hbB hb;replace hB10:=hB10.bel hb;have zz17:=hb.size;clear hb
       refine sa Z Z<|Wn<|bN<|tN<|Qw<|sm Z Z<|st (Qn Z Z Qb) Z<|sa Z Z<|Wn<|tN ⟨_,_,?_,⟨m+1,Z,Z,by omega,hcw,hbB⟩,⟨Z,Z,Z,by rw [hkn2]; rfl,by first|(rw [Ju hfk.puts hp,hso] <;> rfl)|(rw [Ju hfk.puts hp,h117,ZL] <;> rfl),Z,tvA⟩⟩
       omega
      ·replace h117:=Qs h117;replace h117:=Classical.not_not.1 h117
       refine Qf<|bN<|tN<|Qw<|sm Z Z<|st (Qn Z Z Qb) Z<|sa Z Z<|Wn<|tN ⟨_,_,?_,⟨m+1,Z,Z,by omega,hcw,hbB⟩,⟨Z,Z,Z,by rw [hkn2]; rfl,by first|(rw [Ju hfk.puts hp,hso] <;> rfl)|(rw [Ju hfk.puts hp,h117,ZL] <;> rfl),Z,tvA⟩⟩
       omega
    ·replace h86:=Qs h86
     obtain rfl:m=f.pend.length:=by omega
     rw [List.take_length];replace hB:=hB.bel hbB;replace hR:=hR.bel hbB;replace hV:=hV.bel hbB;replace hK:=hK.belowAll hbB
     refine QQ<|tE<|tE<|bH<|tN<|Qa<|sm Z Z<|st (Qc Z) Z<|st (Qk Jj Z) Z<|st (Qi Z hB uz51 Z Z) Z<|sm Z Z<|sm Z Z<|st (QA Z Z uz51 siz69 Z Qb) Z<|st (Qk Vu Z) Z<|ssRN (o:=oF) (j:=i*3+1) Z Qb Z hR Qb Qb siz9 Z (fun w18 hR3 hC3=>?_)
     have hB3:=hB.chg hC3 (fun e=>hneF e.symm);have hV3:=hV.chg hC3 (fun q hq=>(hV q hq).ne2x hR);have hK3:=hK.chgS hC3 (fun h0 k hk e=>hKS h0 k hk (by rw [show k=gF from e]; exact hSF));replace hcw:=hcw.next hC3 (fun k hk=>.inl (by rw [show k=gF from hk]; exact hSF));clear hB hR hV hK hC3;have hB:=hB3;have hV:=hV3;have hK:=hK3;clear hB3 hV3 hK3
     refine Wn<|tN<|Qw<|sm Z Z<|st (Qc Z) Z<|st (Qk Jj Z) Z<|st (Qi Z hB uz51 Z Z) Z<|sm Z Z<|st (QA Z Z uz51 siz69 Z Qb) Z<|st (Qk KE Z) Z<|ssRN (o:=oF) (j:=i*3+2) Z Qb Z hR3 Qb Qb siz67 Z (fun w19 hR4 hC3=>?_)
     have hB3:=hB.chg hC3 (fun e=>hneF e.symm);have hV3:=hV.chg hC3 (fun q hq=>(hV q hq).ne2x hR3);have hK3:=hK.chgS hC3 (fun h0 k hk e=>hKS h0 k hk (by rw [show k=gF from e]; exact hSF));replace hcw:=hcw.next hC3 (fun k hk=>.inl (by rw [show k=gF from hk]; exact hSF));clear hB hV hK hC3;have hB:=hB3;have hV:=hV3;have hK:=hK3;clear hB3 hV3 hK3;rw [flat_set3 ⟨n,⟨crashBytes f.last f.pend kp,f.now,f.pend⟩,.slice av f.pend.length cv⟩ 1 _ hxm Qb rfl,flat_set3 (r:=⟨n,⟨crashBytes f.last f.pend kp,f.now,f.pend⟩,.slice av f.pend.length cv⟩) ⟨n,ZQ f kp,.slice none 0 0⟩ 2 _ (by rw [List.getElem?_set_self Qb]) Qb rfl,List.set_set] at hR4;have hR':=hR4;rw [← hkp,← hpk,Qkd hx] at hR';clear hR4 hR3
     refine Wn<|bN<|tN<|Qw<|sm Z Z<|st (Qn Z Z Qb) Z<|sa Z Z<|Wn<|tN ⟨_,_,?_,⟨i+1,Z,Z,by omega,hcw,hB,hR',hV,hK⟩,⟨Z,Z,Z,tvA⟩⟩
     omega
 ·replace h20:=Qs h20
  obtain rfl:i=rs.length:=by omega
  rw [Quv,← crR_length rs ks] at hR
  refine QQ<|tE<|tE<|bH<|(r0 Z ⟨Z,⟨.slice a rs.length c,crR rs ks,⟨hB,?_,?_,fun r hr=>?_⟩,?_,.inl hSg,fun k hk=>.inl (hh.vF k hk),fun r hr k hk=>?_⟩,hcw⟩).2
  ·rw [crR_length] at hR ⊢; exact hR
  ·rw [crR_map,h.files]; rfl
  ·obtain ⟨e1,e2⟩:=crR_nil _ _ _ hr; rw [e1,e2]; exact Row.nil _ _ _
  ·refine List.Pairwise.imp_of_mem (R:=fun _ _=>True) (fun {x y} hx hy _ k hk=>?_)<|List.pairwise_of_forall (fun _ _=>trivial)
   rw [(crR_nil _ _ _ hx).1] at hk;simp [Value.ownBlock] at hk
  ·rw [(crR_nil _ _ _ hr).1] at hk;simp [Value.ownBlock] at hk
end
end
section
open Go.RowKit
theorem RDisk.chg {w w':World} {g:Nat} {D:DiskD} {S T:Nat→Prop} (h:RDisk w g D S) (hC:Chg T w w') (hs:∀ k,S k→¬T k):RDisk w' g D S:=by
 obtain ⟨vF,rs,h1,h2⟩:=h;exact ⟨vF,rs,h1.chg hC ⟨hs _ h2.g,fun k hk=>hs k (h2.vF k hk),fun q hq k hk=>hs k (h2.v q hq k hk)⟩,h2⟩
structure ROwn (B:Nat) (w:World) (g:Nat) (D:DiskD) (S:Nat→Prop):Prop where
  at_:RDisk w g D S
  lo:∀ k,S k→B≤k∧k<w.heap.size
section
variable {B g c:Nat} {w w' w'':World} {D D' E:DiskD} {S T:Nat→Prop}
theorem ROwn.bel (h:ROwn B w g D S) (hb:Below w.heap.size w w'):ROwn B w' g D S:=⟨h.at_.bel hb,fun k hk=>by have:=h.lo k hk; have:=hb.size; omega⟩
theorem ROwn.step (h:ROwn B w g D S) (hD:RDisk w' g D' (Ext S w w')) (hC:Chg S w w') (hB:B≤w.heap.size):ROwn B w' g D' (Ext S w w') :=
 ⟨hD,fun k hk=>by
  have:=hC.size
  rcases hk with hk|hk
  ·have:=h.lo k hk; omega
  ·omega⟩
theorem ROwn.other (h:ROwn B w c E T) (hC:Chg S w w') (hd:∀ k,S k→¬T k):ROwn B w' c E T:=⟨h.at_.chg hC (fun k hk e=>hd k e hk),fun k hk=>by have:=h.lo k hk; have:=hC.size; omega⟩
end
theorem Qrk {D:DiskD} {n:Key} {f:FileD} (hok:DOk D) (hg:mget D.files n=some f):Kd D n 0 1073741824=(f.now,0):=by
 have:=(hok.len hg).1
 unfold Kd;rw [hg];simp only;rw [if_neg Qb,show (0:Int).toNat=0 from rfl,List.drop_zero,List.take_of_length_le Qb]
end
end Go.Proofs.YtgiccohjijhfkaaGreatDoor
