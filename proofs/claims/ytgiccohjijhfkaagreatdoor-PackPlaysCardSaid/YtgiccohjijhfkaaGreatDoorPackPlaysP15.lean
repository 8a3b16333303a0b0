/- Part 15. -/
import Derived.Test.YtgiccohjijhfkaaGreatDoorPackPlaysP14
set_option maxRecDepth 100000
set_option maxHeartbeats 4000000
namespace Go.Proofs.YtgiccohjijhfkaaGreatDoor
section
open Go.RowKit Sha
theorem Qrm {D:DiskD} {k:Key} (h:(Jo D k).2≠0):mget D.files k=none∧Jo D k=([],15):=by
 cases hm:mget D.files k with
 | none=>exact ⟨rfl,Zd hm⟩
 | some f=>rw [Zc hm] at h; exact absurd rfl h
theorem Quk {D:DiskD} {k:Key} (h:(Jo D k).2=0):∃ f,mget D.files k=some f∧Jo D k=(f.now,0):=by
 cases hm:mget D.files k with
 | none=>rw [Zd hm] at h; simp at h
 | some f=>exact ⟨f,rfl,Zc hm⟩
theorem Qju {D:DiskD} (hok:DOk D) (k:Key):Kd D k 0 1073741824=Jo D k:=by
 cases hm:mget D.files k with
 | none=>rw [Zd hm,Qcf hm]
 | some f=>rw [Zc hm,Qrk hok hm]
theorem X0 (g:Nat) (D:DiskD) (S:Nat→Prop) (w:World) (hd:RDisk w g D S) (k:Key) (hok:DOk D) (hbud:DBud D):Calls Tryz.prog 100 #[.pointer (some ⟨g,0,none⟩),Qv k,.int .i64 0,.int .i64 1073741824] w fun e w'=>e=.returned (.tuple #[Qv (Jo D k).1,.int .i64 (Jo D k).2])∧Below w.heap.size w w':=by
 have h:=Qsz g D S w hd k 0 1073741824 hok hbud;rw [Qju hok] at h;exact h
def U9 (len:Int) (a t:List UInt8):List UInt8×Int :=
  if (QG t).2.2.2≠0∨(QG t).1≠2∨((QG t).2.1.length:Int)≠32+len∨(QG t).2.1.take 32≠a∨sha ((QG t).2.1.drop 32)≠a then ([],35) else ((QG t).2.1.drop 32,0)
theorem got_of {len:Int} {a u:List UInt8} (h1:1≤len) (h2:len≤1024):gotM len a u=U9 len a u:=by
 unfold gotM U9
 by_cases he:(QG u).2.2.2≠0∨(QG u).1≠2
 ·rw [if_pos he,if_pos (by rcases he with h|h; exact .inl h; exact .inr (.inl h))]
 ·rw [if_neg he]
  by_cases hc:Ke (QG u).2.1=true∧(QG u).2.1.take 32=a∧((QG u).2.1.length:Int)=32+len
  ·rw [if_pos hc];have h3:=hc.1;unfold Ke at h3;rw [decide_eq_true_eq] at h3;rw [if_neg];rintro (h|h|h|h|h)
   ·exact he<|.inl h
   ·exact he<|.inr h
   ·exact h hc.2.2
   ·exact h hc.2.1
   ·exact h<|h3.2.2.trans hc.2.1
  ·rw [if_neg hc,if_pos]
   refine Classical.byContradiction fun hn=>hc ?_
   have q:∀ p:Prop,¬ ¬p→p:=fun _=>Classical.byContradiction
   have h3:=q _ fun h=>hn (.inr (.inr (.inl h)))
   have h4:=q _ fun h=>hn (.inr (.inr (.inr (.inl h))))
   have h5:=q _ fun h=>hn (.inr (.inr (.inr (.inr h))))
   refine ⟨?_,h4,h3⟩;unfold Ke;rw [decide_eq_true_eq];exact ⟨by omega,by omega,h5.trans h4.symm⟩
theorem rgot_eq {len:Int} {a t:List UInt8} (h1:1≤len) (h2:len≤1024):gotM len a (t.take (Xv len.toNat))=U9 len a t:=by
 rw [got_of h1 h2]
 by_cases he:(QG t).2.2.2=0
 ·by_cases hc:(QG t).1=2∧((QG t).2.1.length:Int)=32+len
  ·have hz:(QG t).2.2.1=Xv len.toNat:=by
    obtain ⟨_,_,hb⟩:=Vk he;unfold Xv;rw [Qcn he,hc.1,ZT QF hb,ZT QF (by rw [List.length_replicate]; omega),List.length_replicate,show (QG t).2.1.length=32+len.toNat by omega]
   unfold U9;rw [Qnd he Qb]
  ·have hr:U9 len a t=([],35):=by
    unfold U9;rw [if_pos]
    by_cases h:(QG t).1=2
    ·exact .inr<|.inr (.inl fun e=>hc ⟨h,e⟩)
    ·exact .inr<|.inl h
   rw [hr];unfold U9;rw [if_pos]
   by_cases h:(QG (t.take (Xv len.toNat))).2.2.2=0
   ·have:=Qfi (t.drop (Xv len.toNat)) h
    rw [List.take_append_drop] at this;rw [← this]
    by_cases h:(QG t).1=2
    ·exact .inr<|.inr (.inl fun e=>hc ⟨h,e⟩)
    ·exact .inr<|.inl h
   ·exact .inl h
 ·have hr:U9 len a t=([],35):=by
   unfold U9;rw [if_pos (.inl he)]
  rw [hr];unfold U9;rw [if_pos]
  left
  intro h
  have:=Qfi (t.drop (Xv len.toNat)) h
  rw [List.take_append_drop] at this;rw [this] at he;exact he h
theorem Qul {D:DiskD} {n:Int} {l:List Ent} {a:List UInt8} {e:Ent} {f:FileD} (hfi:Zf l a=some e) (he:1≤e.len∧e.len≤1024) (hf:mget D.files (Qz n)=some f) (hlt:¬(f.now.length:Int)<e.pos) :
  Yw D n l a=U9 e.len a (f.now.drop e.pos.toNat):=by
 unfold Yw;rw [hfi];simp only;rw [hf];simp only;rw [if_neg hlt,rgot_eq he.1 he.2]
section
variable (g:Nat) (D:DiskD) (S:Nat→Prop) (n:Int) (w:World)
theorem YO (hd:RDisk w g D S) (hok:DOk D) (hbud:DBud D):Calls Tryz.prog 51 #[.pointer (some ⟨g,0,none⟩),.int .i64 n] w (VA w (QB D n)):=by
 have hpl:=US hok (Qz n);unfold QB
 refine Qj (args:=[.pointer (some ⟨g,0,none⟩),.int .i64 n]) 31 fz51 Z Z Z<|Qt [(0,.pointer (some ⟨g,0,none⟩)),(1,.int .i64 n)] ?_ ⟨Z,Z,tvA⟩
 have bw:=Below.refl w.heap.size w
 refine Qa<|Jm inf39 Z (fun g4 w1 hB4 hg4 hb hl4=>?_)
 replace bw:=Ql bw hb;replace hd:=hd.bel hb;have zz1:=hb.size;clear hb
 refine sa Z Z<|Wn<|tN<|Qe<|Qa<|sm Z Z<|st (QJ Z Z) Z<|sb Z Z (fun h10=>?_) (fun h10=>?_)
 ·replace h10:=Qs h10
  refine gN Z Z Z Z<|gN Z Z Z Z<|st (Qm Z Z) Z<|Wn<|tN<|QO Z (Z)<|Qa<|st (Ja Z (bfz _)) Z<|QY Z Z hB4 siz39 Z Z (fun w2 bB cC=>?_)
  replace hB4:=bB;clear bB;replace bw:=Ji bw cC Qb;have zz2:=cC.size;clear cC
  refine sa Z Z<|Wn<|tN<|Qg<|tR ?_
  rw [if_pos (by unfold QU; rw [decide_eq_false_iff_not]; omega)];exact (KW Z Z hB4 uz39 Z siz39 Z ⟨_,Z,REnts.nil _,fun k hk=>by simp [Value.ownBlock] at hk,bw⟩).1
 ·replace h10:=Qs h10
  refine gY Z Z Z<|sm Z Z<|gY Z Z Z<|st (Jg Z Z) Z<|st (Qq Z Z) Z<|Wn<|tN<|Qx Z (fun h13=>?_) (fun h13=>?_)
  ·replace h13:=Qs h13
   refine Qa<|st (Ja Z (bfz _)) Z<|QY Z Z hB4 siz39 Z Z (fun w3 bB cC=>?_)
   replace hB4:=bB;clear bB;replace bw:=Ji bw cC Qb;have zz3:=cC.size;clear cC
   refine sa Z Z<|Wn<|tN<|Qg<|tR ?_
   rw [if_pos (by unfold QU; rw [decide_eq_false_iff_not]; omega)];exact (KW Z Z hB4 uz39 Z siz39 Z ⟨_,Z,REnts.nil _,fun k hk=>by simp [Value.ownBlock] at hk,bw⟩).1
  ·replace h13:=Qs h13;rw [if_neg (by unfold QU; rw [decide_eq_false_iff_not]; omega)]
   refine Qf<|tN<|Qa<|sm Z Z<|sm Z Z<|sc _ fz21 Z Qo Z Z (Q3 (Yd n _) fun w4 hb=>?_)
   replace bw:=Ql bw hb;replace hd:=hd.bel hb;replace hB4:=hB4.bel hb;have zz4:=hb.size;clear hb;refine sc _ fz100 Z Qo Z Z (Q3 (X0 g D S _ hd (Qz n) hok hbud) fun w5 hb=>?_);replace bw:=Ql bw hb;replace hd:=hd.bel hb;replace hB4:=hB4.bel hb;have zz5:=hb.size;clear hb
   refine sm Z Z<|st (Qu Z Z) Z<|st (Qu Z Z) Z<|sa Z Z<|sa Z Z<|Wn<|tN<|Qe<|Qa<|sm Z Z<|st (QC Z Z) Z<|Wn<|tN<|Qx Z (fun h23=>?_) (fun h23=>?_)
   ·replace h23:=Qs h23;rw [if_pos h23]
    refine Qa<|st (Ja Z (bfz _)) Z<|sm Z Z<|QY Z Z hB4 siz39 Z Z (fun w6 bB cC=>?_)
    replace hB4:=bB;clear bB;replace bw:=Ji bw cC Qb;have zz6:=cC.size;clear cC
    refine sa Z Z<|Wn<|tN<|Qg<|tR ?_
    exact (KW Z Z hB4 uz39 Z siz39 Z ⟨_,Z,REnts.nil _,fun k hk=>by simp [Value.ownBlock] at hk,bw⟩).1
   ·replace h23:=Qs h23;rw [if_neg h23]
    refine Qf<|tN<|Qa<|sm Z Z<|sm Z Z<|sc _ Tryz.func101 Z Qo Z Z<|(Qsx (Jo D (Qz n)).1 n _ Qb).mono ?_
    rintro e_ w7 ⟨u,rfl,hR,hO,hb⟩;refine cR ?_;replace bw:=Ql bw hb;replace hd:=hd.bel hb;replace hB4:=hB4.bel hb;have zz7:=hb.size;clear hb;obtain ⟨am,cm,rfl,_,_⟩:=hR.shape
    refine st (Qu Z Z) Z<|st (Qu Z Z) Z<|QY Z Z hB4 siz39 Z (by simp [Value.oneCell']) (fun w8 bB cC=>?_)
    replace hR:REnts _ _ _:=Reads.chgS hR cC (fun _ k hk=>by show ¬k=g4; have:=hO k hk; omega);replace bw:=Ji bw cC Qb;replace hB4:=bB;clear bB cC
    refine sa Z Z<|Wn<|tN<|Qg ?_
    exact (KW Z Z hB4 uz39 Z siz39 Z ⟨_,Z,hR,fun k hk=>by have:=hO k hk; omega,bw⟩).1
theorem Qxc (u:Value) (x:Scn) (a:List UInt8) (hd:RDisk w g D S) (hok:DOk D) (hbud:DBud D) (hE:REnts w u x.l) (hEO:EOk x.l):Calls Tryz.prog 56 #[.pointer (some ⟨g,0,none⟩),.int .i64 n,.agg #[u,.int .i64 x.good,.bool x.whole],Qv a] w fun e w'=>e=.returned (.tuple #[Qv (Yw D n x.l a).1,.int .i64 (Yw D n x.l a).2])∧Below w.heap.size w w':=by
 have hfl:∀ f,mget D.files (Qz n)=some f→f.now.length≤16777216:=fun f hf=>(hok.len hf).1
 obtain ⟨p,cp,rfl,hn,hcp⟩:=hE.shape
 refine Qj (args:=[.pointer (some ⟨g,0,none⟩),.int .i64 n,.agg #[.slice p x.l.length cp,.int .i64 x.good,.bool x.whole],Qv a]) 89 Tryz.func56 Z Z Z<|Qt [(0,.pointer (some ⟨g,0,none⟩)),(1,.int .i64 n),(2,.agg #[.slice p x.l.length cp,.int .i64 x.good,.bool x.whole]),(3,Qv a)] ?_ ⟨Z,Z,Z,Z,tvA⟩
 have bw:=Below.refl w.heap.size w
 refine Qa<|J1 Z Z (fun g6 w1 hB6 hg6 hb hl6=>?_)
 replace bw:=Ql bw hb;replace hd:=hd.bel hb;replace hE:=hE.bel hb;have zz1:=hb.size;clear hb
 refine sa Z Z<|sa Z Z<|Wn<|tN<|Qa<|st (Qk KH Z) Z<|st (Qi Z hB6 uz35 Z Z) Z<|sm Z Z<|sc _ Tryz.func87 Z Qo Z Z (Q3 (Qee _ x.l a _ hE) fun w2 hb=>?_)
 replace bw:=Ql bw hb;replace hd:=hd.bel hb;replace hE:=hE.bel hb;replace hB6:=hB6.bel hb;have zz2:=hb.size;clear hb
 refine sa Z Z<|Wn<|tN<|Qe<|Qa<|sm Z Z<|st (QJ Z Z) Z<|Wn<|tN<|Qx Z (fun h22=>?_) (fun h22=>?_)
 ·replace h22:=Qs h22;rw [Qez (Qkw h22)]
  refine Qa<|sa Z Z<|sa Z Z<|Wn<|tN<|Qg<|tR ?_
  exact (J6 Z Z Z ⟨Z,bw⟩).1
 ·replace h22:=Qs h22;obtain ⟨i,en,hi,hgi,hes,hfi⟩:=Qpu h22;rw [hi];have he:=hEO en (List.mem_of_getElem? hgi);have hil:i<x.l.length:=(List.getElem?_eq_some_iff.1 hgi).1;obtain ⟨g1,o1,c',hv,hg1⟩:=hE.some_ Qb;injection hv with e1 _ e3;subst e1 e3;clear hi h22
  refine Qf<|tN<|Qa<|sm Z Z<|sm Z Z<|sc _ fz21 Z Qo Z Z (Q3 (Yd n _) fun w3 hb=>?_)
  replace bw:=Ql bw hb;replace hd:=hd.bel hb;replace hE:=hE.bel hb;replace hB6:=hB6.bel hb;have zz3:=hb.size;clear hb;refine sc _ fz100 Z Qo Z Z (Q3 (X0 g D S _ hd (Qz n) hok hbud) fun w4 hb=>?_);replace bw:=Ql bw hb;replace hd:=hd.bel hb;replace hE:=hE.bel hb;replace hB6:=hB6.bel hb;have zz4:=hb.size;clear hb
  refine sm Z Z<|st (Qu Z Z) Z<|st (Qu Z Z) Z<|sa Z Z<|sa Z Z<|Wn<|tN<|Qe<|Qa<|sm Z Z<|st (QC Z Z) Z<|Wn<|tN<|Qx Z (fun h31=>?_) (fun h31=>?_)
  ·replace h31:=Qs h31;obtain ⟨hm,hpr⟩:=Qrm h31
   have hpg:Yw D n x.l a=([],15):=by unfold Yw; rw [hfi]; simp only; rw [hm]
   rw [hpr,hpg]
   refine Qa<|sm Z Z<|sa Z Z<|sa Z Z<|Wn<|tN<|Qg<|tR ?_
   exact (J6 Z Z Z ⟨Z,bw⟩).1
  ·replace h31:=Qs h31;obtain ⟨f,hf,hpf⟩:=Quk (Decidable.of_not_not h31);rw [hpf];have hfn:=hfl f hf;clear h31
   refine Qf<|tN<|Qe<|Qa<|st (Qk KH Z) Z<|st (Qi Z hB6 uz35 Z Z) Z<|sm Z Z<|st (QA Z Z uz35 siz95 Z Qb) Z<|st (Qk Qdh Z) Z<|st (JS Z uz3 Z (REnts.range hE hgi 2 _ Z)) Z<|sm Z Z<|st (QP Z Z uz9) Z<|st (Jg Z Z) Z<|Wn<|tN<|Qx Z (fun h41=>?_) (fun h41=>?_)
   ·replace h41:=Qs h41
    have hpg:Yw D n x.l a=([],35):=by unfold Yw; rw [hfi]; simp only; rw [hf]; simp only; rw [if_pos Qb]
    rw [hpg]
    refine Qa<|sa Z Z<|sa Z Z<|Wn<|tN<|Qg<|tR ?_
    exact (J6 Z Z Z ⟨Z,bw⟩).1
   ·replace h41:=Qs h41;rw [Qul hfi he.2.2 hf Qb]
    obtain ⟨⟨k,b,z,e⟩,hnm⟩:∃ r,QG (f.now.drop en.pos.toNat)=r:=⟨_,rfl⟩
    unfold U9;rw [hnm]
    refine Qf<|tN<|Qa<|sm Z Z<|st (Qk KH Z) Z<|st (Qi Z hB6 uz35 Z Z) Z<|sm Z Z<|st (QA Z Z uz35 siz95 Z Qb) Z<|st (Qk Qdh Z) Z<|st (JS Z uz3 Z (REnts.range hE hgi 2 _ Z)) Z<|st (Ka (i:=en.pos.toNat) Z Z uz9 Qb Qb) Z ?_
    have hNx:=Qeh (f.now.drop en.pos.toNat) w4 (by rw [List.length_drop]; omega)
    have hbl:b.length≤16777216:=by
     have hl:(QG (f.now.drop en.pos.toNat)).2.1.length≤(f.now.drop en.pos.toNat).length:=UV _;rw [hnm,List.length_drop] at hl;simp only at hl
     omega
    rw [hnm] at hNx;simp only [Qkb] at hNx;refine sc _ fz105 Z Qo Z Z (Q3 (hNx) fun w5 hb=>?_);replace bw:=Ql bw hb;replace hd:=hd.bel hb;replace hE:=hE.bel hb;replace hB6:=hB6.bel hb;have zz5:=hb.size;clear hb
    refine sm Z Z<|st (Qu Z Z) Z<|st (Qu Z Z) Z<|st (Qu Z Z) Z<|st (Qu Z Z) Z<|sa Z Z<|sa Z Z<|sa Z Z<|sa Z Z<|Wn<|tN<|Qe<|Qa<|sm Z Z<|st (QC Z Z) Z<|sb Z Z (fun h58=>?_) (fun h58=>?_)
    ·replace h58:=Qs h58
     refine gN Z Z Z Z<|gN Z Z Z Z<|st (Qm Z Z) Z<|sm Z Z<|gN Z Z Z Z<|gN Z Z Z Z<|gN Z Z Z Z<|gN Z Z Z Z<|gN Z Z Z Z<|gN Z Z Z Z<|gN Z Z Z Z<|gN Z Z Z Z<|gN Z Z Z Z<|gN Z Z Z Z<|st (Qm Z Z) Z<|sm Z Z<|gN Z Z Z Z<|gN Z Z Z Z<|gN Z Z Z Z<|gN Z Z Z Z<|st (Qm Z Z) Z<|sm Z Z<|gN Z Z Z Z<|gN Z Z Z Z<|gN Z Z Z Z<|gN Z Z Z Z<|gN Z Z Z Z<|st (Qm Z Z) Z<|Wn<|tN<|QO Z (Z) ?_
     refine Qa<|sa Z Z<|sa Z Z<|Wn<|tN<|Qg<|tR ?_
     rw [if_pos (.inl h58)];exact (J6 Z Z Z ⟨Z,bw⟩).1
    ·replace h58:=Qs h58
     refine gY Z Z Z<|sm Z Z<|gY Z Z Z<|st (QC Z Z) Z<|st (Qq Z Z) Z<|sb Z Z (fun h62=>?_) (fun h62=>?_)
     ·replace h62:=Qs h62
      refine gN Z Z Z Z<|gN Z Z Z Z<|gN Z Z Z Z<|gN Z Z Z Z<|gN Z Z Z Z<|gN Z Z Z Z<|gN Z Z Z Z<|gN Z Z Z Z<|gN Z Z Z Z<|gN Z Z Z Z<|st (Qm Z Z) Z<|sm Z Z<|gN Z Z Z Z<|gN Z Z Z Z<|gN Z Z Z Z<|gN Z Z Z Z<|st (Qm Z Z) Z<|sm Z Z<|gN Z Z Z Z<|gN Z Z Z Z<|gN Z Z Z Z<|gN Z Z Z Z<|gN Z Z Z Z<|st (Qm Z Z) Z<|Wn<|tN<|QO Z (Z)<|Qa<|sa Z Z<|sa Z Z<|Wn ?_
      refine tN<|Qg<|tR ?_
      rw [if_pos (.inr (.inl (fun e=>h62 (by have e:k=2:=e; rw [e]; rfl))))];exact (J6 Z Z Z ⟨Z,bw⟩).1
     ·replace h62:=Qs h62
      refine gY Z Z Z<|sm Z Z<|gY Z Z Z<|st (QP Z Z uz9) Z<|gY Z Z Z<|st (Qk KH Z) Z<|gY Z Z Z<|st (Qi Z hB6 uz35 Z Z) Z<|gY Z Z Z<|sm Z Z<|gY Z Z Z<|st (QA Z Z uz35 siz95 Z Qb) Z<|gY Z Z Z<|st (Qk Qhl Z) Z<|gY Z Z Z<|st (JS Z uz3 Z (REnts.range hE hgi 3 _ Z)) Z<|gY Z Z Z<|st (Qn Z Z Qb) Z<|gY Z Z Z<|st (QC Z Z) Z<|st (Qq Z Z) Z<|sb Z Z (fun h74=>?_) (fun h74=>?_)
      ·replace h74:=Qs h74
       refine gN Z Z Z Z<|gN Z Z Z Z<|gN Z Z Z Z<|gN Z Z Z Z<|st (Qm Z Z) Z<|sm Z Z<|gN Z Z Z Z<|gN Z Z Z Z<|gN Z Z Z Z<|gN Z Z Z Z<|gN Z Z Z Z<|st (Qm Z Z) Z<|Wn<|tN<|QO Z (Z)<|Qa<|sa Z Z<|sa Z Z<|Wn<|tN<|Qg<|tR ?_
       rw [if_pos (.inr (.inr (.inl h74)))];exact (J6 Z Z Z ⟨Z,bw⟩).1
      ·replace h74:=Qs h74
       refine gY Z Z Z<|sm Z Z<|gY Z Z Z<|st (KQ (j:=32) Z Z uz9 Z Qb) Z<|gY Z Z Z<|sm Z Z<|gY Z Z Z<|st (Y7 Z Z) Z<|st (Qq Z Z) Z<|sb Z Z (fun h80=>?_) (fun h80=>?_)
       ·replace h80:=Qs h80
        refine gN Z Z Z Z<|gN Z Z Z Z<|gN Z Z Z Z<|gN Z Z Z Z<|gN Z Z Z Z<|st (Qm Z Z) Z<|Wn<|tN<|QO Z (Z)<|Qa<|sa Z Z<|sa Z Z<|Wn<|tN<|Qg<|tR ?_
        rw [if_pos (.inr (.inr (.inr (.inl h80))))];exact (J6 Z Z Z ⟨Z,bw⟩).1
       ·replace h80:=Qs h80
        refine gY Z Z Z<|sm Z Z<|gY Z Z Z<|st (Ka (i:=32) Z Z uz9 Z Qb) Z<|gY Z Z Z<|sc _ fz57 Z Qo Z Z (Q3 (XK (b.drop 32) _ (by rw [List.length_drop]; omega)) fun w6 hb=>?_)
        replace bw:=Ql bw hb;replace hd:=hd.bel hb;replace hE:=hE.bel hb;replace hB6:=hB6.bel hb;have zz6:=hb.size;clear hb
        refine gY Z Z Z<|sm Z Z<|gY Z Z Z<|st (Y7 Z Z) Z<|st (Qq Z Z) Z<|Wn<|tN<|Qx Z (fun h86=>?_) (fun h86=>?_)
        ·replace h86:=Qs h86
         refine Qa<|sa Z Z<|sa Z Z<|Wn<|tN<|Qg<|tR ?_
         rw [if_pos (.inr (.inr (.inr (.inr h86))))];exact (J6 Z Z Z ⟨Z,bw⟩).1
        ·replace h86:=Qs h86
         refine Qf<|tN<|Qa<|sm Z Z<|st (Ka (i:=32) Z Z uz9 Z Qb) Z<|sa Z Z<|sa Z Z<|Wn<|tN<|Qg ?_
         rw [if_neg (by rintro (h|h|h|h|h); exact h58 h; exact h (Qjf (k:=k) (m:=2) QF (Decidable.of_not_not h62)); exact h74 h; exact h80 h; exact h86 h)];exact (J6 Z Z Z ⟨Z,bw⟩).1
theorem Qgc (hd:RDisk w g D S) (hok:DOk D) (hbud:DBud D) (hlen:∀ f,mget D.files (Zz n)=some f→f.now.length<1000000):Calls Tryz.prog 65 #[.pointer (some ⟨g,0,none⟩),.int .i64 n] w (RIdx w (Us D n)):=by
 have hpl:(Jo D (Zz n)).1.length<1000000:=by
  cases hm:mget D.files (Zz n) with
  | none=>rw [Zd hm]; simp
  | some f=>rw [Zc hm]; exact hlen f hm
 unfold Us
 refine Qj (args:=[.pointer (some ⟨g,0,none⟩),.int .i64 n]) 28 Tryz.func65 Z Z Z<|Qt [(0,.pointer (some ⟨g,0,none⟩)),(1,.int .i64 n)] ?_ ⟨Z,Z,tvA⟩
 have bw:=Below.refl w.heap.size w
 refine Qa<|sa Z Z<|sa Z Z<|Wn<|tN<|Qe<|Qa<|sm Z Z<|st (QJ Z Z) Z<|sb Z Z (fun h10=>?_) (fun h10=>?_)
 ·replace h10:=Qs h10
  refine gN Z Z Z Z<|gN Z Z Z Z<|st (Qm Z Z) Z<|Wn<|tN<|QO Z (Z)<|Qa<|sa Z Z<|sa Z Z<|Wn<|tN<|Qg<|tR ?_
  rw [if_pos (by unfold QU; rw [decide_eq_false_iff_not]; omega)];exact (J6 Z Z Z ⟨_,Z,REnts.nil _,bw⟩).1
 ·replace h10:=Qs h10
  refine gY Z Z Z<|sm Z Z<|gY Z Z Z<|st (Jg Z Z) Z<|st (Qq Z Z) Z<|Wn<|tN<|Qx Z (fun h13=>?_) (fun h13=>?_)
  ·replace h13:=Qs h13
   refine Qa<|sa Z Z<|sa Z Z<|Wn<|tN<|Qg<|tR ?_
   rw [if_pos (by unfold QU; rw [decide_eq_false_iff_not]; omega)];exact (J6 Z Z Z ⟨_,Z,REnts.nil _,bw⟩).1
  ·replace h13:=Qs h13;rw [if_neg (by unfold QU; rw [decide_eq_false_iff_not]; omega)]
   refine Qf<|tN<|Qa<|sm Z Z<|sm Z Z<|sc _ fz70 Z Qo Z Z (Q3 (YI n _) fun w1 hb=>?_)
   replace bw:=Ql bw hb;replace hd:=hd.bel hb;have zz1:=hb.size;clear hb;refine sc _ fz100 Z Qo Z Z (Q3 (X0 g D S _ hd (Zz n) hok hbud) fun w2 hb=>?_);replace bw:=Ql bw hb;replace hd:=hd.bel hb;have zz2:=hb.size;clear hb
   refine sm Z Z<|st (Qu Z Z) Z<|st (Qu Z Z) Z<|sa Z Z<|sa Z Z<|Wn<|tN<|Qe<|Qa<|sm Z Z<|st (QC Z Z) Z<|Wn<|tN<|Qx Z (fun h22=>?_) (fun h22=>?_)
   ·replace h22:=Qs h22;rw [if_pos h22]
    refine Qa<|sm Z Z<|sa Z Z<|sa Z Z<|Wn<|tN<|Qg<|tR ?_
    exact (J6 Z Z Z ⟨_,Z,REnts.nil _,bw⟩).1
   ·replace h22:=Qs h22;rw [if_neg h22]
    refine Qf<|tN<|Qa<|sm Z Z<|sc _ Tryz.func113 Z Qo Z Z<|(Qlx (Jo D (Zz n)).1 _ hpl).mono ?_
    rintro e_ w3 ⟨u,rfl,hR,hb⟩;refine cR ?_;replace bw:=Ql bw hb;replace hd:=hd.bel hb;have zz3:=hb.size;clear hb
    refine st (Qu Z Z) Z<|st (Qu Z Z) Z<|sa Z Z<|sa Z Z<|Wn<|tN<|Qg ?_
    exact (J6 Z Z Z ⟨_,Z,hR,bw⟩).1
end
end
section
open Go.RowKit
theorem or128:∀ y:Fin 256,(y.val ||| 128)=y.val%128+128:=by decide +kernel
theorem byte_or (x:Nat):(UInt8.ofNat (x%256) ||| 128).toNat=128+x%128:=by
 rw [UInt8.toNat_or];have h:=or128 ⟨x%256,by omega⟩;simp only at h;rw [show (UInt8.ofNat (x%256)).toNat=x%256 by simp,show (128:UInt8).toNat=128 from rfl,h]
 omega
theorem H6 (x:Nat) (w:World) (hx:x<128 ^ 9):Calls Tryz.prog 127 #[.int .u64 x] w fun e w'=>e=.returned (Qv (Xi x))∧Below w.heap.size w w':=by
 refine Qj (args:=[.int .u64 x]) 21 Tryz.func127 Z Z Z<|Qt [(0,.int .u64 x)] ?_ ⟨Z,tvA⟩
 have bw:=Below.refl w.heap.size w
 refine Qa<|sa Z Z<|Wn<|tN<|Qa<|sa Z Z<|Wn<|tN<|Qe<|Qp<|JG (fun nw1_ lw1_ w1=>∃ i:Nat,∃ y:Nat,∃ v:Value,∃ p:List UInt8,nw1_=10-i∧lw1_=([(0,.int .u64 (y:Int)),(3,v)]:Env)∧(i≤9)∧(y<128 ^ (9-i))∧(Xi x=p++uvF (10-i) y)∧(p.length=i)∧(Below w.heap.size w w1)∧(Row w1 5 1 v p.length (p.map bv))∧(∀ k,v.ownBlock=some k→w.heap.size≤k)) _ ⟨_,⟨0,x,.slice none 0 0,[],Z,Z,by omega,hx,Z,Z,bw,Row.nil _ _ _,(fun k hk=>by simp [Value.ownBlock] at hk)⟩,⟨Z,Z,tvA⟩⟩ ?_
 clear bw;rintro nw1_ lw1_ w1 ⟨i,y,v,p,rfl,rfl,hi,hy,hp,hpl,bw,hR,hO⟩;have zz1:=bw.size;have hylt:y<9223372036854775808:=Nat.lt_of_lt_of_le hy (Nat.le_trans (Nat.pow_le_pow_right QF (Nat.sub_le 9 i)) QF)
 refine Qe<|Qa<|sm Z Z<|st (Z1 Z Z) Z<|Wn<|tN<|Qx Z (fun h5=>?_) (fun h5=>?_)
 ·replace h5:=Qs h5
  have hi8:i<9:=by
   rcases Nat.lt_or_ge i 9 with h|h
   ·exact h
   ·rw [show 9-i=0 by omega,Nat.pow_zero] at hy
    omega
  have hbo:=byte_or y
  refine Qf<|tN<|Qp<|Qa<|sm Z Z<|sm Z Z<|st (Yc Z Z Qb Qb) Z<|st (Yx (z:=128+(y:Int)%128) Z Z (IntWalk.u64_in _ Qb)) Z<|st (QM (z:=((UInt8.ofNat (y%256) ||| 128).toNat:Int)) Z uz151 uz5 (by rw [hbo]; refine (IntWalk.u8_in _ Qb).trans ?_; omega)) Z ?_
  refine Zy Z uz114 inf5 Z Z QF QF Z (fun g11 w2 hR11 hg11 hb=>?_);replace bw:=Ql bw hb;replace hR:=hR.bel hb;have zz2:=hb.size;clear hb;have hl11:=hR11.blt QF;refine Z4 Z Z uz114 inf5 Z QF hR (hR11.reads.src uz114 (by intro u hu; simp [Value.cells] at hu; subst hu; rfl)) (by simp only [maxLen]; omega) Qb Z (fun v' w3 hR' hC hv'=>?_);have hbn:=KM bw hC hO;have hOn:=JE hv' hO (by have:=bw.size; omega)
  have hRn:Row w3 5 1 v' (p++[UInt8.ofNat (y%256) ||| 128]).length ((p++[UInt8.ofNat (y%256) ||| 128]).map bv):=by
   rw [List.map_append,List.length_append];exact hR'
  clear bw hR hR11;have bw:=hbn
  refine sa Z Z<|Wn<|tN<|Qw<|sm Z Z<|st (Qqe (z:=((y / 128:Nat):Int)) Z Z Qb (by rw [Int.tdiv_eq_ediv_of_nonneg Qb]; refine (IntWalk.u64_in _ Qb).trans ?_; omega)) Z ?_
  refine sa Z Z<|Wn<|bN<|tN ⟨_,_,?_,⟨i+1,y / 128,v',p++[UInt8.ofNat (y%256) ||| 128],Z,Z,by omega,(by rw [show 9-i=(9-(i+1))+1 by omega,Nat.pow_succ] at hy; omega),(by rw [hp,Qgi Qb Qb,List.append_assoc,show 10-i-1=10-(i+1) by omega]),(by rw [List.length_append,hpl]; rfl),bw,hRn,hOn⟩,⟨Z,Z,tvA⟩⟩
  omega
 ·replace h5:=Qs h5
  have hb8:(UInt8.ofNat (y%256)).toNat=y:=by
   rw [show (UInt8.ofNat (y%256)).toNat=y%256 by simp]
   omega
  refine QQ<|tE<|tE<|bH<|tN<|Qa<|sm Z Z<|sm Z Z<|st (QM (z:=((UInt8.ofNat (y%256)).toNat:Int)) Z uz151 uz5 (by rw [hb8]; exact IntWalk.u8_in _ Qb)) Z ?_
  refine Zy Z uz114 inf5 Z Z QF QF Z (fun g18 w4 hR18 hg18 hb=>?_);replace bw:=Ql bw hb;replace hR:=hR.bel hb;have zz4:=hb.size;clear hb;have hl18:=hR18.blt QF;refine Z4 Z Z uz114 inf5 Z QF hR (hR18.reads.src uz114 (by intro u hu; simp [Value.cells] at hu; subst hu; rfl)) (by simp only [maxLen]; omega) Qb Z (fun v' w5 hR' hC hv'=>?_);have hbn:=KM bw hC hO
  have hRn:Row w5 5 1 v' (p++[UInt8.ofNat (y%256)]).length ((p++[UInt8.ofNat (y%256)]).map bv):=by
   rw [List.map_append,List.length_append];exact hR'
  clear bw hR hR18;have bw:=hbn
  refine st (Zs (s:=p++[UInt8.ofNat (y%256)]) Z uz114 uz5 uz9 hRn.reads) Z<|sa Z Z<|Wn<|tN<|Qg<|(rT Z Z ⟨?_,bw⟩).1
  rw [hp,Qbv Qb Qb]
theorem H7 (k:UInt8) (b:List UInt8) (w:World) (hl:b.length≤1099511627776):Calls Tryz.prog 85 #[.int .u8 k.toNat,Qv b] w fun e w'=>e=.returned (Qv (KN k b))∧Below w.heap.size w w':=by
 unfold KN
 refine Qj (args:=[.int .u8 k.toNat,Qv b]) 29 Tryz.func85 Z Z Z<|Qt [(0,.int .u8 k.toNat),(1,Qv b)] ?_ ⟨Z,Z,tvA⟩
 have bw:=Below.refl w.heap.size w
 refine Qa<|sa Z Z<|Wn<|tN<|Qe<|Qa<|sm Z Z<|st (QL Z Z) Z<|sb Z Z (fun h8=>?_) (fun h8=>?_)
 ·replace h8:=Qs h8;rw [if_pos (.inl (by apply UInt8.toNat.inj; show k.toNat=0; omega))]
  refine gN Z Z Z Z<|gN Z Z Z Z<|gN Z Z Z Z<|st (Qm Z Z) Z<|Wn<|tN<|QO Z (Z)<|Qa<|sa Z Z<|Wn<|tN<|Qg<|tR ?_
  exact (rT Z Z ⟨Z,bw⟩).1
 ·replace h8:=Qs h8
  have hk0:k≠0:=fun e=>h8 (by rw [e]; rfl)
  refine gY Z Z Z<|sm Z Z<|gY Z Z Z<|st (QP Z Z uz9) Z<|gY Z Z Z<|st (Jg Z Z) Z<|st (Qq Z Z) Z<|Wn<|tN<|Qx Z (fun h12=>?_) (fun h12=>?_)
  ·replace h12:=Qs h12;rw [if_pos (.inr Qb)]
   refine Qa<|sa Z Z<|Wn<|tN<|Qg<|tR ?_
   exact (rT Z Z ⟨Z,bw⟩).1
  ·replace h12:=Qs h12;rw [if_neg (fun e=>by rcases e with e|e; exact hk0 e; omega)];have hul:=uvB_length b.length Qb;have h1l:([k]:List UInt8).length=1:=rfl
   have hkul:([k]++Xi b.length).length=1+(Xi b.length).length:=by rw [List.length_append,h1l]
   refine Qf<|tN<|Y8 (fun G=>Below w.heap.size w G) (.yes 0 (.yes 3 (.yes 4 (.yes 5 (.yes 8 (.pick (.alt 1 (.pick (.alt 2 (.pick (.alt 6 (.yes 7 (.yes 9 (.yes 10 (.nil)))) (.no))) (.alt 6 (.pick (.alt 2 (.yes 7 (.yes 9 (.yes 10 (.nil)))) (.no))) (.no)))) (.alt 6 (.pick (.alt 1 (.pick (.alt 2 (.yes 7 (.yes 9 (.yes 10 (.nil)))) (.no))) (.no))) (.no))))))))) Qo Qo (JC X4) ?_
   obtain ⟨w1,hw_,hb⟩:=QN w;rw [← hw_];clear hw_;have hS:=hb;replace bw:=Ql bw hb;have zz1:=hb.size;clear hb
   refine uY Z (fun G U=>(Qd Z)) Z<|uY Z (fun G U=>(Qd Z)) Z<|uY Z (fun G U=>(QP Z Z uz9)) Z<|uY Z (fun G U=>(QM (z:=(b.length:Int)) Z uz3 uz151 (IntWalk.u64_in _ Qb))) Z<|uY Z (fun G U=>(Qd Z)) Z<|uP<|uA Z (fun Q_ hQ_ hP_=>?_)<|uA Z (fun Q_ hQ_ hP_=>?_) u0
   ·refine Zy Z uz114 inf5 Z Z QF QF Z (fun g14 w2 hR14 hg14 hb=>?_);replace hS:=Ql hS hb;replace bw:=Ql bw hb;have zz2:=hb.size;clear hb;have hl14:=hR14.blt QF
    refine Wn<|hQ_ _ _ hS ?_
    clear hQ_ hP_ Q_
    refine uP<|uA Z (fun Q_ hQ_ hP_=>?_)<|uA Z (fun Q_ hQ_ hP_=>?_) u0
    ·refine st (Zs (s:=[k]) Z uz114 uz5 uz9 hR14.reads) Z<|Wn<|hQ_ _ _ hS ?_
     clear hQ_ hP_ Q_
     refine uP<|uA Z (fun Q_ hQ_ hP_=>?_) u0
     refine sc _ Tryz.func127 Z Qo Z Z (Q3 (H6 b.length _ Qb) fun w3 hb=>?_);replace hS:=Ql hS hb;replace bw:=Ql bw hb;replace hR14:=hR14.bel hb;have zz3:=hb.size;clear hb
     refine Wn<|hQ_ _ _ hS ?_
     clear hQ_ hP_ Q_
     refine uY Z (fun G U=>(JV Z Z Qb)) Z<|uY Z (fun G U=>(JV Z Z Qb)) Z<|uY Z (fun G U=>(Qy Z)) Z<|uN<|nN<|Qa<|sm Z Z<|sm Z Z ?_
     have hpl:(([k]++Xi b.length)++b).length=1+(Xi b.length).length+b.length:=by simp only [List.length_append,h1l]
     rw [List.append_assoc] at hpl
     obtain ⟨pp,hpp⟩:∃ pp,[k]++(Xi b.length++b)=pp:=⟨_,rfl⟩
     rw [hpp] at hpl
     have hpa:([k]++Xi b.length)++b=pp:=by rw [List.append_assoc,hpp]
     rw [hpp,hpa]
     have hpb:pp.length≤2000000:=by omega
     refine sc _ fz129 Z Qo Z Z<|(KV pp _ (Nat.le_trans hpb QF)).mono ?_
     rintro e_ w_ ⟨rfl,rfl⟩;refine cR ?_
     obtain ⟨cn,hcn⟩:∃ cn:Nat,(Crc.crc pp).toNat=cn:=⟨_,rfl⟩
     have hcl:cn<4294967296:=by rw [← hcn]; exact (Crc.crc pp).toNat_lt
     rw [hcn]
     refine st (QM (z:=(cn:Int)) Z uz143 uz151 (IntWalk.u64_in _ Qb)) Z<|sc _ fz128 Z Qo Z Z (Q3 (X1 cn _ Qb) fun w4 hb=>?_)
     replace bw:=Ql bw hb;replace hR14:=hR14.bel hb;have zz4:=hb.size;clear hb;have hfl:=fixB_length cn 4
     refine st (JV Z Z Qb) Z<|sa Z Z<|Wn<|tN<|Qg ?_
     exact (rT Z Z ⟨Z,bw⟩).1
    ·refine sc _ Tryz.func127 Z Qo Z Z (Q3 (H6 b.length _ Qb) fun w5 hb=>?_);replace hS:=Ql hS hb;replace bw:=Ql bw hb;replace hR14:=hR14.bel hb;have zz5:=hb.size;clear hb
     refine Wn<|hQ_ _ _ hS ?_
     clear hQ_ hP_ Q_
     refine uP<|uA Z (fun Q_ hQ_ hP_=>?_) u0
     refine st (Zs (s:=[k]) Z uz114 uz5 uz9 hR14.reads) Z<|Wn<|hQ_ _ _ hS ?_
     clear hQ_ hP_ Q_
     refine uY Z (fun G U=>(JV Z Z Qb)) Z<|uY Z (fun G U=>(JV Z Z Qb)) Z<|uY Z (fun G U=>(Qy Z)) Z<|uN<|nN<|Qa<|sm Z Z<|sm Z Z ?_
     have hpl:(([k]++Xi b.length)++b).length=1+(Xi b.length).length+b.length:=by simp only [List.length_append,h1l]
     rw [List.append_assoc] at hpl
     obtain ⟨pp,hpp⟩:∃ pp,[k]++(Xi b.length++b)=pp:=⟨_,rfl⟩
     rw [hpp] at hpl
     have hpa:([k]++Xi b.length)++b=pp:=by rw [List.append_assoc,hpp]
     rw [hpp,hpa]
     have hpb:pp.length≤2000000:=by omega
     refine sc _ fz129 Z Qo Z Z<|(KV pp _ (Nat.le_trans hpb QF)).mono ?_
     rintro e_ w_ ⟨rfl,rfl⟩;refine cR ?_
     obtain ⟨cn,hcn⟩:∃ cn:Nat,(Crc.crc pp).toNat=cn:=⟨_,rfl⟩
     have hcl:cn<4294967296:=by rw [← hcn]; exact (Crc.crc pp).toNat_lt
     rw [hcn]
     refine st (QM (z:=(cn:Int)) Z uz143 uz151 (IntWalk.u64_in _ Qb)) Z<|sc _ fz128 Z Qo Z Z (Q3 (X1 cn _ Qb) fun w6 hb=>?_)
     replace bw:=Ql bw hb;replace hR14:=hR14.bel hb;have zz6:=hb.size;clear hb;have hfl:=fixB_length cn 4
     refine st (JV Z Z Qb) Z<|sa Z Z<|Wn<|tN<|Qg ?_
     exact (rT Z Z ⟨Z,bw⟩).1
   ·refine sc _ Tryz.func127 Z Qo Z Z (Q3 (H6 b.length _ Qb) fun w7 hb=>?_);replace hS:=Ql hS hb;replace bw:=Ql bw hb;have zz7:=hb.size;clear hb
    refine Wn<|hQ_ _ _ hS ?_
    clear hQ_ hP_ Q_
    refine uP<|uA Z (fun Q_ hQ_ hP_=>?_) u0
    refine Zy Z uz114 inf5 Z Z QF QF Z (fun g14 w8 hR14 hg14 hb=>?_);replace hS:=Ql hS hb;replace bw:=Ql bw hb;have zz8:=hb.size;clear hb;have hl14:=hR14.blt QF
    refine Wn<|hQ_ _ _ hS ?_
    clear hQ_ hP_ Q_
    refine uP<|uA Z (fun Q_ hQ_ hP_=>?_) u0
    refine st (Zs (s:=[k]) Z uz114 uz5 uz9 hR14.reads) Z<|Wn<|hQ_ _ _ hS ?_
    clear hQ_ hP_ Q_
    refine uY Z (fun G U=>(JV Z Z Qb)) Z<|uY Z (fun G U=>(JV Z Z Qb)) Z<|uY Z (fun G U=>(Qy Z)) Z<|uN<|nN<|Qa<|sm Z Z<|sm Z Z ?_
    have hpl:(([k]++Xi b.length)++b).length=1+(Xi b.length).length+b.length:=by simp only [List.length_append,h1l]
    rw [List.append_assoc] at hpl
    obtain ⟨pp,hpp⟩:∃ pp,[k]++(Xi b.length++b)=pp:=⟨_,rfl⟩
    rw [hpp] at hpl
    have hpa:([k]++Xi b.length)++b=pp:=by rw [List.append_assoc,hpp]
    rw [hpp,hpa]
    have hpb:pp.length≤2000000:=by omega
    refine sc _ fz129 Z Qo Z Z<|(KV pp _ (Nat.le_trans hpb QF)).mono ?_
    rintro e_ w_ ⟨rfl,rfl⟩;refine cR ?_
    obtain ⟨cn,hcn⟩:∃ cn:Nat,(Crc.crc pp).toNat=cn:=⟨_,rfl⟩
    have hcl:cn<4294967296:=by rw [← hcn]; exact (Crc.crc pp).toNat_lt
    rw [hcn]
    refine st (QM (z:=(cn:Int)) Z uz143 uz151 (IntWalk.u64_in _ Qb)) Z<|sc _ fz128 Z Qo Z Z (Q3 (X1 cn _ Qb) fun w9 hb=>?_)
    replace bw:=Ql bw hb;replace hR14:=hR14.bel hb;have zz9:=hb.size;clear hb;have hfl:=fixB_length cn 4
    refine st (JV Z Z Qb) Z<|sa Z Z<|Wn<|tN<|Qg ?_
    exact (rT Z Z ⟨Z,bw⟩).1
end
section
open Go.RowKit Sha
def DKeep (B:Nat) (w:World) (gd:Nat) (S:Nat→Prop) (D:DiskD) (w':World):Prop:=∃ S',Own B w' gd D S'∧(∀ k,S' k→S k∨w.heap.size≤k)∧Chg S w w'
section
variable {B gd:Nat} {w:World} {D:DiskD} {n:Int} {S:Nat→Prop}
theorem Qev (u:Value) (l:List Ent) (N:Nat) (hd:Own B w gd D S) (hBw:B≤w.heap.size) (hg:Good N D) (hN:N≤1000000000) (hT:PTabs B w) (hE:EntsAt w u l) (h32:Yt l) (hu:∀ k,u.ownBlock=some k→¬S k) (hl:l.length≤100000) :
  Calls Tryz.prog 62 #[.pointer (some ⟨gd,0,none⟩),.int .i64 n,.agg #[u]] w fun e w'=>e=.returned (.int .i64 (JK D n l).1)∧DKeep B w gd S (JK D n l).2 w':=by
 have hlen:=XE h32;have hg0:=ZU hg (Q1 n);have hg1:=ZC hg0 (Q1 n);have hg2:=JB hg1 (Q1 n) (ZH l)
 have hS1:∀ k,S k→S k∨w.heap.size≤k:=fun k hk=>.inl hk
 have hSlo:=hd.lo;obtain ⟨ua,uc,rfl,hun,huc⟩:=hE.shape;unfold JK
 refine Qj (args:=[.pointer (some ⟨gd,0,none⟩),.int .i64 n,.agg #[.slice ua l.length uc]]) 52 Tryz.func62 Z Z Z<|Qt [(0,.pointer (some ⟨gd,0,none⟩)),(1,.int .i64 n),(2,.agg #[.slice ua l.length uc])] ?_ ⟨Z,Z,Z,tvA⟩
 have hcw:=Chg.refl (S) w
 refine Qa<|J1 Z Z (fun g5 w1 hB5 hg5 hb hl5=>?_)
 replace hcw:=hcw.then_below hb;replace hd:=hd.bel hb;replace hT:=hT.bel hb;have zz1:=hb.size;clear hb
 refine sa Z Z<|Wn<|tN<|Qe<|Qa<|sm Z Z<|sm Z Z<|sc _ fz24 Z Qo Z Z (Q3 (VI (some ⟨gd,0,none⟩) n _) fun w2 hb=>?_)
 replace hcw:=hcw.then_below hb;replace hd:=hd.bel hb;replace hT:=hT.bel hb;replace hB5:=hB5.bel hb;have zz2:=hb.size;clear hb
 refine sa Z Z<|Wn<|tN<|Qa<|sm Z Z<|st (QC Z Z) Z<|Wn<|tN<|Qx Z (fun h15=>?_) (fun h15=>?_)
 ·replace h15:=Qs h15
  have hr:QU n=false:=by cases h:QU n with|false=>rfl|true=>exact absurd (by simp [Vl,h]) h15
  refine Qa<|sm Z Z<|sa Z Z<|Wn<|tN<|Qg<|tR ?_
  exact (rT Z Z ⟨by simp [Vl,hr],S,by rw [if_pos hr]; exact hd,hS1,hcw⟩).1
 ·replace h15:=Qs h15
  have hr:¬QU n=false:=fun h=>h15 (by simp [Vl,h])
  rw [if_neg hr]
  refine Qf<|tN<|Qa<|sm Z Z<|sc _ Tryz.func68 Z Qo Z Z (Q3 (XN n _ hT.pow) fun w3 hb=>?_)
  replace hcw:=hcw.then_below hb;replace hd:=hd.bel hb;replace hT:=hT.bel hb;replace hB5:=hB5.bel hb;have zz3:=hb.size;clear hb
  refine sa Z Z<|Wn<|tN<|Qa<|sm Z Z<|sm Z Z ?_
  have hil:=Qha n;refine st (JV Z Z (by show (Zz n).length+4≤_; omega)) Z ?_
  refine sc _ fz29 Z Qo Z Z<|(VJ (U1 gd D S (Q1 n) _ hd.at_ hg.ok) hd (Nat.le_trans hBw hcw.size) hT hcw (fun k hk=>hk) hS1).mono ?_
  clear hd hT;rintro e_ w4 ⟨rfl,S1,hd,hT,hS1,hX2,hcw,hz1_⟩;refine cR ?_;replace hB5:=hB5.chg hX2.2 (fun e=>by have:=hSlo g5 e; omega)
  have hn5:∀ k,S1 k→k≠g5:=fun k hk e=>by rcases hX2.1 k hk with h|h; have:=hSlo k h; omega; omega
  clear hX2
  obtain ⟨e1,D1,hp1⟩:∃ e D',Q7 D (Q1 n)=(e,D'):=⟨_,_,rfl⟩
  rw [hp1] at hd hg0 hg1 hg2 ⊢;simp only at hd hg0 hg1 hg2 ⊢
  refine Wn<|tN<|Qe<|Qa<|sm Z Z<|sm Z Z<|st (JV Z Z (by show (Zz n).length+4≤_; omega)) Z ?_
  refine sc _ fz25 Z Qo Z Z<|(VJ (Qej gd D1 _ (Q1 n) _ hd.at_ hg0.ok) hd (Nat.le_trans hBw hcw.size) hT hcw (fun k hk=>hk) hS1).mono ?_
  clear hd hT;rintro e_ w5 ⟨rfl,S2,hd,hT,hS1,hX2,hcw,hz2_⟩;refine cR ?_;replace hB5:=hB5.chg hX2.2 (fun e=>hn5 g5 e rfl)
  have hn6:∀ k,S2 k→k≠g5:=fun k hk e=>by rcases hX2.1 k hk with h|h; exact hn5 k h e; omega
  clear hX2
  obtain ⟨e2,D2,hp2⟩:∃ e D',QV D1 (Q1 n)=(e,D'):=⟨_,_,rfl⟩
  rw [hp2] at hd hg1 hg2 ⊢;simp only at hd hg1 hg2 ⊢
  refine sa Z Z<|Wn<|tN<|Qa<|sm Z Z<|st (QC Z Z) Z<|Wn<|tN<|Qx Z (fun h28=>?_) (fun h28=>?_)
  ·replace h28:=Qs h28;rw [if_pos h28]
   refine Qa<|sm Z Z<|sa Z Z<|Wn<|tN<|Qg<|tR ?_
   exact (rT Z Z ⟨Z,S2,hd,hS1,hcw⟩).1
  ·replace h28:=Qs h28;rw [if_neg h28]
   refine Qf<|tN<|Qe<|Qa<|sm Z Z<|sm Z Z<|st (JV Z Z (by show (Zz n).length+4≤_; omega)) Z ?_
   refine st (QE Z hB5 uz101 Z siz101) Z<|sc _ Tryz.func108 Z Qo Z Z (Q3 (Qpf _ l _ (Reads.chgS hE hcw (fun _ k hk=>hu k hk)) h32 hl) fun w6 hb=>?_)
   replace hcw:=hcw.then_below hb;replace hd:=hd.bel hb;replace hT:=hT.bel hb;replace hB5:=hB5.bel hb;have zz6:=hb.size;clear hb
   refine sc _ fz26 Z Qo Z Z<|(VJ (U2 gd D2 _ (Q1 n) (ZH l) _ hd.at_ hg1.ok (hg1.bud Qb) Qb) hd (Nat.le_trans hBw hcw.size) hT hcw (fun k hk=>hk) hS1).mono ?_
   clear hd hT;rintro e_ w7 ⟨rfl,S3,hd,hT,hS1,hX2,hcw,hz3_⟩;refine cR ?_;clear hX2
   obtain ⟨e3,D3,hp3⟩:∃ e D',QI D2 (Q1 n) (ZH l)=(e,D'):=⟨_,_,rfl⟩
   rw [hp3] at hd hg2 ⊢;simp only at hd hg2 ⊢
   refine sa Z Z<|Wn<|tN<|Qa<|sm Z Z<|st (QC Z Z) Z<|Wn<|tN<|Qx Z (fun h37=>?_) (fun h37=>?_)
   ·replace h37:=Qs h37;rw [if_pos h37]
    refine Qa<|sm Z Z<|sm Z Z<|st (JV Z Z (by show (Zz n).length+4≤_; omega)) Z ?_
    refine sc _ fz29 Z Qo Z Z<|(VJ (U1 gd D3 _ (Q1 n) _ hd.at_ hg2.ok) hd (Nat.le_trans hBw hcw.size) hT hcw (fun k hk=>hk) hS1).mono ?_
    clear hd hT;rintro e_ w8 ⟨rfl,S4,hd,hT,hS1,hX2,hcw,hz4_⟩
    refine cR<|Wn<|tN<|Qa<|sm Z Z<|sa Z Z<|Wn<|tN<|Qg<|tR ?_
    exact (rT Z Z ⟨Z,S4,hd,hS1,hcw⟩).1
   ·replace h37:=Qs h37;rw [if_neg h37]
    refine Qf<|tN<|Qa<|sm Z Z<|sm Z Z<|st (JV Z Z (by show (Zz n).length+4≤_; omega)) Z ?_
    refine sc _ fz93 Z Qo Z Z<|(VJ (Qlt gd D3 _ (Q1 n) _ hd.at_ hg2.ok) hd (Nat.le_trans hBw hcw.size) hT hcw (fun k hk=>hk) hS1).mono ?_
    clear hd hT;rintro e_ w9 ⟨rfl,S5,hd,hT,hS1,hX2,hcw,hz5_⟩;refine cR ?_;have hg5:=YK hg2 (Q1 n)
    refine Wn<|tN<|Qa<|sm Z Z<|sm Z Z<|st (JV Z Z (by show (Zz n).length+4≤_; omega)) Z ?_
    refine sm Z Z<|sc _ fz109 Z Qo Z Z<|(VJ (Qow gd _ _ (Q1 n) (Zz n) _ hd.at_ hg5.ok) hd (Nat.le_trans hBw hcw.size) hT hcw (fun k hk=>hk) hS1).mono ?_
    clear hd hT;rintro e_ w10 ⟨rfl,S6,hd,hT,hS1,hX2,hcw,hz6_⟩
    refine cR<|sa Z Z<|Wn<|tN<|Qg ?_
    exact (rT Z Z ⟨Z,S6,hd,hS1,hcw⟩).1
theorem Qey (hd:DiskAt w gd D S) (hok:DOk D) (hT:PTabs B w) (hlen:∀ f,mget D.files (Zz n)=some f→f.now.length<10000000) :
  Calls Tryz.prog 64 #[.pointer (some ⟨gd,0,none⟩),.int .i64 n] w (Hi w (Us D n)):=by
 have hpl:(Jo D (Zz n)).1.length<10000000:=by
  cases hm:mget D.files (Zz n) with
  | none=>rw [Zd hm]; simp
  | some f=>rw [Zc hm]; exact hlen f hm
 unfold Us
 refine Qj (args:=[.pointer (some ⟨gd,0,none⟩),.int .i64 n]) 31 Tryz.func64 Z Z Z<|Qt [(0,.pointer (some ⟨gd,0,none⟩)),(1,.int .i64 n)] ?_ ⟨Z,Z,tvA⟩
 have bw:=Below.refl w.heap.size w
 refine Qa<|Jm inf101 Z (fun g4 w1 hB4 hg4 hb hl4=>?_)
 replace bw:=Ql bw hb;replace hd:=hd.bel hb;replace hT:=hT.bel hb;have zz1:=hb.size;clear hb
 refine sa Z Z<|Wn<|tN<|Qe<|Qa<|sm Z Z<|sm Z Z<|sc _ fz24 Z Qo Z Z (Q3 (VI (some ⟨gd,0,none⟩) n _) fun w2 hb=>?_)
 replace bw:=Ql bw hb;replace hd:=hd.bel hb;replace hT:=hT.bel hb;replace hB4:=hB4.bel hb;have zz2:=hb.size;clear hb
 refine sa Z Z<|Wn<|tN<|Qa<|sm Z Z<|st (QC Z Z) Z<|Wn<|tN<|Qx Z (fun h13=>?_) (fun h13=>?_)
 ·replace h13:=Qs h13
  have hr:QU n=false:=by cases h:QU n with|false=>rfl|true=>exact absurd (by simp [Vl,h]) h13
  refine Qa<|st (Ja Z (Y6 _)) Z<|sm Z Z<|QY Z Z hB4 siz101 Z Z (fun w3 bB cC=>?_)
  replace hB4:=bB;clear bB;replace bw:=Ji bw cC Qb;have zz3:=cC.size;clear cC
  refine sa Z Z<|Wn<|tN<|Qg<|tR ?_
  exact (KW Z Z hB4 uz101 Z siz101 Z ⟨_,by rw [if_pos hr]; simp [Vl,hr]; rfl,by rw [if_pos hr]; exact EntsAt.nil _,fun k hk=>by simp [Value.ownBlock] at hk,bw⟩).1
 ·replace h13:=Qs h13
  have hr:¬QU n=false:=fun h=>h13 (by simp [Vl,h])
  rw [if_neg hr]
  refine Qf<|tN<|Qa<|sm Z Z<|sm Z Z<|sc _ Tryz.func68 Z Qo Z Z (Q3 (XN n _ hT.pow) fun w4 hb=>?_)
  replace bw:=Ql bw hb;replace hd:=hd.bel hb;replace hT:=hT.bel hb;replace hB4:=hB4.bel hb;have zz4:=hb.size;clear hb;refine sc _ Tryz.func98 Z Qo Z Z (Q3 (Qew gd D S (Zz n) _ hd hok) fun w5 hb=>?_);replace bw:=Ql bw hb;replace hd:=hd.bel hb;replace hT:=hT.bel hb;replace hB4:=hB4.bel hb;have zz5:=hb.size;clear hb
  refine sm Z Z<|st (Qu Z Z) Z<|st (Qu Z Z) Z<|sa Z Z<|sa Z Z<|Wn<|tN<|Qe<|Qa<|sm Z Z<|st (QC Z Z) Z<|Wn<|tN<|Qx Z (fun h24=>?_) (fun h24=>?_)
  ·replace h24:=Qs h24;rw [if_pos h24]
   refine Qa<|st (Ja Z (Y6 _)) Z<|sm Z Z<|QY Z Z hB4 siz101 Z Z (fun w6 bB cC=>?_)
   replace hB4:=bB;clear bB;replace bw:=Ji bw cC Qb;have zz6:=cC.size;clear cC
   refine sa Z Z<|Wn<|tN<|Qg<|tR ?_
   exact (KW Z Z hB4 uz101 Z siz101 Z ⟨_,Z,EntsAt.nil _,fun k hk=>by simp [Value.ownBlock] at hk,bw⟩).1
  ·replace h24:=Qs h24;rw [if_neg h24]
   refine Qf<|tN<|Qa<|sm Z Z<|sc _ Tryz.func112 Z Qo Z Z<|(Qpg (Jo D (Zz n)).1 _ hpl).mono ?_
   rintro e_ w7 ⟨v,rfl,hE,hO,hb⟩;refine cR ?_;replace bw:=Ql bw hb;replace hd:=hd.bel hb;replace hT:=hT.bel hb;replace hB4:=hB4.bel hb;have zz7:=hb.size;clear hb
   obtain ⟨am,cm,rfl⟩:∃ am cm,v=.slice am (K3 (Jo D (Zz n)).1).1.length cm:=by obtain ⟨_,am,cm,e,_⟩:=hE; exact ⟨am,cm,e⟩
   refine st (Qu Z Z) Z<|st (Qu Z Z) Z<|QY Z Z hB4 siz101 Z (by simp [Value.oneCell']) (fun w8 bB cC=>?_)
   replace hE:=EntsAt.chgI hE (Qqb _) hB4 cC;replace bw:=Ji bw cC Qb;replace hB4:=bB;clear bB cC
   refine sa Z Z<|Wn<|tN<|Qg ?_
   exact (KW Z Z hB4 uz101 Z siz101 Z ⟨_,Z,hE,fun k hk=>by have:=hO k hk; omega,bw⟩).1
theorem XQ (hok:DOk D) (n:Int):(QB D n).1.l.length≤441505∧EOk (QB D n).1.l∧SOk (Jo D (Qz n)).1 n (QB D n).1:=by
 unfold QB
 split
 ·exact ⟨by simp [sc0],by simp [EOk,sc0],⟨by simp [sc0],by simp [sc0],by simp [Yt,sc0],by simp [sc0]⟩⟩
 split
 ·exact ⟨by simp [sc0],by simp [EOk,sc0],⟨by simp [sc0],by simp [sc0],by simp [Yt,sc0],by simp [sc0]⟩⟩
 ·exact ⟨Qrc _ n (US hok _),Qrd (US hok _) n,Qjm _ n⟩
def Qxe (B:Nat) (w:World) (gd:Nat) (S:Nat→Prop) (r:(List Ent×Int)×DiskD) (e:Ending) (w':World):Prop :=
  ∃ u S',e=.returned (.tuple #[.agg #[u],.int .i64 r.1.2])∧EntsAt w' u r.1.1∧(0<r.1.1.length→∀ k,u.ownBlock=some k→¬S' k)∧(∀ k,u.ownBlock=some k→w.heap.size≤k)∧Own B w' gd r.2 S'∧(∀ k,S' k→S k∨w.heap.size≤k)∧Chg S w w'
theorem Qgs (N:Nat) (hd:Own B w gd D S) (hBw:B≤w.heap.size) (hg:Good N D) (hN:N≤1000000000) (hT:PTabs B w) (hl:(QB D n).1.l.length≤100000) :
  Calls Tryz.prog 66 #[.pointer (some ⟨gd,0,none⟩),.int .i64 n] w (Qxe B w gd S (Q8 D n)):=by
 have hS1:∀ k,S k→S k∨w.heap.size≤k:=fun k hk=>.inl hk
 have hSlo:=hd.lo;unfold Q8
 refine Qj (args:=[.pointer (some ⟨gd,0,none⟩),.int .i64 n]) 31 Tryz.func66 Z Z Z<|Qt [(0,.pointer (some ⟨gd,0,none⟩)),(1,.int .i64 n)] ?_ ⟨Z,Z,tvA⟩
 have hcw:=Chg.refl (S) w
 refine Qa<|Jm inf101 Z (fun g4 w1 hB4 hg4 hb hl4=>?_)
 replace hcw:=hcw.then_below hb;replace hd:=hd.bel hb;replace hT:=hT.bel hb;have zz1:=hb.size;clear hb
 refine sa Z Z<|Wn<|tN<|Qa<|sm Z Z<|sm Z Z<|sc _ Tryz.func50 Z Qo Z Z<|(Qex B gd D S n _ hd.at_ hg.ok hT).mono ?_
 rintro e_ w2 ⟨p,rfl,hpn,hps,hb⟩;refine cR ?_;replace hcw:=hcw.then_below hb;replace hd:=hd.bel hb;replace hT:=hT.bel hb;replace hB4:=hB4.bel hb;have zz2:=hb.size;clear hb
 refine sm Z Z<|st (Qu Z Z) Z<|st (Qu Z Z) Z<|sa Z Z<|sa Z Z<|Wn<|tN<|Qe<|Qa<|sm Z Z<|st (QC Z Z) Z<|Wn<|tN<|Qx Z (fun h17=>?_) (fun h17=>?_)
 ·replace h17:=Qs h17;rw [if_pos h17]
  refine Qa<|st (Ja Z (Y6 _)) Z<|sm Z Z<|QY Z Z hB4 siz101 Z (by simp [Value.oneCell']) (fun w3 bB cC=>?_)
  replace hB4:=bB;replace hd:=hd.other cC (fun k hk e=>by have h1:k=g4:=hk; have:=hSlo k e; omega);replace hcw:=hcw.next cC (fun i hi=>.inr Qb)
  refine sa Z Z<|Wn<|tN<|Qg<|tR ?_
  exact (KW Z Z hB4 uz101 Z siz101 Z ⟨_,S,Z,EntsAt.nil _,fun _ k hk=>by simp [Value.ownBlock] at hk,fun k hk=>by simp [Value.ownBlock] at hk,hd,hS1,hcw⟩).1
 ·replace h17:=Qs h17;rw [if_neg h17];obtain ⟨gp,gx,gm,v,rfl,hP,hPO⟩:=hps (Decidable.of_not_not h17);have h32:=hP.scn.s32;clear hps hpn
  refine Qf<|tN<|Qa<|sm Z Z<|sc _ fz52 Z Qo Z Z<|(Qcz hP Qb).mono ?_
  rintro e_ w4 ⟨u,rfl,hE,hO,hb⟩;refine cR ?_;replace hcw:=hcw.then_below hb;replace hd:=hd.bel hb;replace hT:=hT.bel hb;replace hB4:=hB4.bel hb;have zz4:=hb.size;clear hb
  obtain ⟨am,cm,rfl⟩:∃ am cm,u=.slice am (Jb (QB D n).1.l).1.length cm:=by obtain ⟨_,am,cm,e,_⟩:=hE; exact ⟨am,cm,e⟩
  have hml:=JQ (QB D n).1.l;refine Jm inf101 Z (fun g8 w5 hB8 hg8 hb hl8=>?_);replace hcw:=hcw.then_below hb;replace hd:=hd.bel hb;replace hT:=hT.bel hb;replace hB4:=hB4.bel hb;replace hE:=hE.bel hb;have zz5:=hb.size;clear hb;refine QY Z Z hB8 siz101 Z (by simp [Value.oneCell']) (fun w6 bB cC=>?_);replace hE:=EntsAt.chgI hE (Q5 h32) hB8 cC;replace hB8:=bB;replace hB4:=hB4.chg cC (by show ¬g4=g8; omega);replace hd:=hd.other cC (fun k hk e=>by have h1:k=g8:=hk; have:=hSlo k e; omega);replace hT:=hT.chg cC (fun k hk=>by have h1:k=g8:=hk; omega);replace hcw:=hcw.next cC (fun i hi=>.inr Qb);have zz6:=cC.size;clear bB cC
  refine Wn<|tN<|Qe<|Qa<|sm Z Z<|sm Z Z<|st (QE Z hB8 uz101 Z siz101) Z ?_
  have hul:0<(Jb (QB D n).1.l).1.length→∀ {k},(Value.slice am (Jb (QB D n).1.l).1.length cm).ownBlock=some k→k<_:=fun h0 {k} hk=>Reads.ownLt hE h0 hk
  refine sc _ Tryz.func62 Z Qo Z Z<|(Qev (n:=n) _ (Jb (QB D n).1.l).1 N hd (Nat.le_trans hBw hcw.size) hg hN hT hE (Q5 h32) (fun k hk e=>by have:=hO k hk; have:=hSlo k e; omega) Qb).mono ?_
  clear hd;rintro e_ w7 ⟨rfl,S1,hd,hS2,hX⟩;refine cR ?_;replace hE:EntsAt _ _ _:=Reads.chgS hE hX (fun _ k hk e=>by have:=hO k hk; have:=hSlo k e; omega);replace hB4:=hB4.chg hX (fun e=>by have:=hSlo g4 e; omega);replace hB8:=hB8.chg hX (fun e=>by have:=hSlo g8 e; omega);replace hcw:=hcw.next hX (fun i hi=>.inl hi);have hz_9:=hX.size
  have hn4:∀ k,S1 k→k≠g4:=fun k hk e=>by rcases hS2 k hk with h|h; have:=hSlo k h; omega; omega
  obtain ⟨e1,D1,hp1⟩:∃ e D',JK D n (Jb (QB D n).1.l).1=(e,D'):=⟨_,_,rfl⟩
  rw [hp1] at hd ⊢;simp only at hd ⊢
  refine sa Z Z<|Wn<|tN<|Qa<|sm Z Z<|st (QC Z Z) Z<|Wn<|tN<|Qx Z (fun h27=>?_) (fun h27=>?_)
  ·replace h27:=Qs h27;rw [if_pos h27]
   refine Qa<|st (Ja Z (Y6 _)) Z<|sm Z Z<|QY Z Z hB4 siz101 Z (by simp [Value.oneCell']) (fun w8 bB cC=>?_)
   replace hB4:=bB;replace hd:=hd.other cC (fun k hk e=>hn4 k e hk);replace hcw:=hcw.next cC (fun i hi=>.inr Qb)
   refine sa Z Z<|Wn<|tN<|Qg<|tR ?_
   exact (KW Z Z hB4 uz101 Z siz101 Z ⟨_,S1,Z,EntsAt.nil _,fun _ k hk=>by simp [Value.ownBlock] at hk,fun k hk=>by simp [Value.ownBlock] at hk,hd,fun k hk=>(hS2 k hk).imp id (fun h=>by omega),hcw⟩).1
  ·replace h27:=Qs h27;rw [if_neg h27]
   refine Qf<|tN<|Qa<|st (QE Z hB8 uz101 Z siz101) Z<|QY Z Z hB4 siz101 Z (by simp [Value.oneCell']) (fun w9 bB cC=>?_)
   replace hE:=EntsAt.chgI hE (Q5 h32) hB4 cC;replace hB4:=bB;replace hd:=hd.other cC (fun k hk e=>hn4 k e hk);replace hcw:=hcw.next cC (fun i hi=>.inr Qb)
   refine sa Z Z<|Wn<|tN<|Qg ?_
   exact (KW rfl rfl hB4 uz101 rfl siz101 rfl ⟨_,S1,rfl,hE,fun h0 k hk e=>by have:=hul h0 hk; have:=hO k hk; rcases hS2 k e with h|h; have:=hSlo k h; omega; omega,fun k hk=>by have:=hO k hk; omega,hd,fun k hk=>(hS2 k hk).imp id (fun h=>by omega),hcw⟩).1
end
end
section
open Go.RowKit Sha
section
variable {D:DiskD}
theorem opQ (h:D.stops=false) (c:DiskD→Int×DiskD):opM D c=c D:=Qnb h c
theorem V0 (h:D.stops=false) {k:Key} {d:List UInt8} (ha:(QI D k d).1=0):∃ f,mget D.files k=some f:=by
 unfold QI at ha;rw [opQ h] at ha
 cases hm:mget D.files k with
 | some f=>exact ⟨f,rfl⟩
 | none=>rw [Jd hm] at ha; simp at ha
theorem Qlp (h:D.stops=false) {k:Key} (hm:mget D.files k=none) (d:List UInt8):QI D k d=(15,D):=by
 unfold QI;rw [opQ h,Jd hm]
theorem Qik (h:D.stops=false) (hs:Rising D.files) {k:Key} {d:List UInt8} (ha:(QI D k d).1=0):∃ f,mget (QI D k d).2.files k=some f:=by
 obtain ⟨f,hf⟩:=V0 h ha;unfold QI at ha ⊢;rw [opQ h,QW hf] at ha ⊢;unfold Xe at ha ⊢
 split
 ·exact ⟨f,hf⟩
 ·rename_i h1
  rw [if_neg h1] at ha
  split
  ·rename_i h2; rw [if_pos h2] at ha; simp at ha
  ·exact ⟨_,by show mget (sput _ _ _) k=_; rw [Zv hs,if_pos Z]⟩
theorem Qmk (h:D.stops=false) {k:Key} (hm:∃ f,mget D.files k=some f):(Ku D k).1=0:=by
 obtain ⟨f,hf⟩:=hm;unfold Ku;rw [opQ h,QW hf]
theorem Qgv (h:D.stops=false) (hs:Rising D.files) (x:Wri):Jc D x=if x.closed=true then (([],1),x,D)
  else if (QI D (Qz x.n) (Zw x.l)).1≠0 then (([],(QI D (Qz x.n) (Zw x.l)).1),x,(QI D (Qz x.n) (Zw x.l)).2)
  else (((Jb x.l).1,0),{ x with closed:=true },(Ku (QI D (Qz x.n) (Zw x.l)).2 (Qz x.n)).2):=by
 unfold Jc
 by_cases h1:x.closed=true
 ·rw [if_pos h1,if_pos h1]
 rw [if_neg h1,if_neg h1]
 by_cases h2:(QI D (Qz x.n) (Zw x.l)).1≠0
 ·rw [if_pos h2,if_pos h2]
 rw [if_neg h2,if_neg h2,if_neg];rw [Qmk (by rw [Jq]; exact h) (Qik h hs (Decidable.of_not_not h2))]
 simp
theorem Qab (h:D.stops=false) (hs:Rising D.files) (k:Key):mget (Q7 D k).2.files k=none:=by
 unfold Q7;rw [opQ h]
 cases hm:mget D.files k with
 | none=>rw [Jd hm]; exact hm
 | some f=>rw [QW hm]; exact (J0 hs.nodup k k).trans (if_pos rfl)
theorem Qid (h:D.stops=false) {k:Key} (hk:Zj k=true) (hm:mget D.files k=none):(QV D k).1=0:=by
 unfold QV;rw [opQ h,if_pos hk,hm]
 rfl
theorem Qac (h:D.stops=false) (hs:Rising D.files) (n:Int) (l:List Ent):JK D n l=if QU n=false then (1,D)
  else if (QI (QV (Q7 D (Q1 n)).2 (Q1 n)).2 (Q1 n) (ZH l)).1≠0 then
   ((QI (QV (Q7 D (Q1 n)).2 (Q1 n)).2 (Q1 n) (ZH l)).1,(Q7 (QI (QV (Q7 D (Q1 n)).2 (Q1 n)).2 (Q1 n) (ZH l)).2 (Q1 n)).2)
  else Kx (Ku (QI (QV (Q7 D (Q1 n)).2 (Q1 n)).2 (Q1 n) (ZH l)).2 (Q1 n)).2 (Q1 n) (Zz n):=by
 unfold JK
 by_cases h1:QU n=false
 ·rw [if_pos h1,if_pos h1]
 rw [if_neg h1,if_neg h1,if_neg];rw [Qid (by rw [Za]; exact h) (new_ok (by simpa using h1)) (Qab h hs _)]
 simp
end
section
variable {D:DiskD} {m:Nat}
theorem sput_few:∀ (m:List (Key×FileD)) (k:Key) (f:FileD),(sput m k f).length≤m.length+1
 | [],_,_=>by simp [sput]
 | (x,u)::m,k,f=>by
  unfold sput
  split
  ·simp
  ·split
   ·simp
   ·have:=sput_few m k f
    simp only [List.length_cons]
    omega
theorem mdel_few:∀ (m:List (Key×FileD)) (k:Key),(mdel m k).length≤m.length
 | [],_=>by simp [mdel]
 | (x,u)::m,k=>by
  unfold mdel
  split
  ·simp
  ·have:=mdel_few m k
   simp only [List.length_cons]
   omega
theorem Qcm {c:DiskD→Int×DiskD} (hc:∀ E:DiskD,E.files=D.files→(c E).2.files.length≤m) (hm:D.files.length≤m):(opM D c).2.files.length≤m:=by
 unfold opM
 split
 ·exact hm
 ·exact hc _<|Zh D
theorem XA {k:Key} {c:FileD→Int×DiskD} (hc:∀ f,(c f).2.files.length≤m) (hm:D.files.length≤m):(Ym D k c).2.files.length≤m:=by
 unfold Ym
 split
 ·exact hm
 ·exact hc _
theorem UY (D:DiskD) (k:Key):(QV D k).2.files.length≤D.files.length+1:=by
 unfold QV
 refine Qcm (fun E hE=>?_)<|Nat.le_succ _
 split
 ·split
  ·show E.files.length≤_; rw [hE]; omega
  ·have:=sput_few E.files k newFile; rw [hE] at this; show (sput E.files k newFile).length≤_; rw [hE]; exact this
 ·show E.files.length≤_; rw [hE]; omega
theorem K4 (D:DiskD) (k:Key) (d:List UInt8):(QI D k d).2.files.length≤D.files.length+1:=by
 unfold QI
 refine Qcm (fun E hE=>XA (fun f=>?_) (by rw [hE]; omega))<|Nat.le_succ _
 unfold Xe
 split
 ·show E.files.length≤_; rw [hE]; omega
 split
 ·show E.files.length≤_; rw [hE]; omega
 ·have:=sput_few E.files k (Xw f f.now.length d)
  rw [hE] at this
  show (sput E.files k _).length≤_
  rw [hE]; exact this
theorem Qcb (D:DiskD) (k:Key):(Ku D k).2.files.length≤D.files.length+1:=by
 unfold Ku
 refine Qcm (fun E hE=>XA (fun f=>?_) (by rw [hE]; omega))<|Nat.le_succ _
 have:=sput_few E.files k (KY f)
 rw [hE] at this
 show (sput E.files k _).length≤_
 rw [hE]; exact this
theorem YT (D:DiskD) (k:Key):(Q7 D k).2.files.length≤D.files.length:=by
 unfold Q7
 refine Qcm (fun E hE=>XA (fun f=>?_) (by rw [hE]; omega))<|Nat.le_refl _
 have:=mdel_few E.files k
 rw [hE] at this
 show (mdel E.files k).length≤_
 rw [hE]; exact this
theorem Qmq (D:DiskD) (a b:Key):(Kx D a b).2.files.length≤D.files.length+1:=by
 unfold Kx
 refine Qcm (fun E hE=>?_)<|Nat.le_succ _
 split
 ·refine XA (fun f=>?_) (by rw [hE]; omega)
  split
  ·show E.files.length≤_; rw [hE]; omega
  ·have h1:=sput_few (mdel E.files a) b f;have h2:=mdel_few E.files a;rw [hE] at h1 h2
   show (sput (mdel E.files a) b f).length≤_
   rw [hE]; omega
 ·show E.files.length≤_; rw [hE]; omega
theorem rot_few (D:DiskD) (k:Key) (i:Int) (c:UInt8):(rotM D k i c).2.files.length≤D.files.length+1:=by
 unfold rotM
 refine XA (fun f=>?_)<|Nat.le_succ _
 split
 ·show D.files.length≤_; omega
 ·exact sput_few D.files k _
theorem Qsi (D:DiskD) (ks:List Int):(Ut D ks).files.length=D.files.length:=by
 have:=congrArg List.length (crashAll_keys D.files ks)
 simp only [List.length_map] at this;exact this
end
theorem Qms {D:DiskD} (k:Key):((Jo D k).1.length:Int)=(ZS D k).1:=by
 cases hm:mget D.files k with
 | none=>rw [Zd hm,Vg hm]; rfl
 | some f=>rw [Zc hm,Uf hm]
theorem rdisk {P:Program} {f:FuncId} {args:Array Value} {B gr:Nat} {w0 w:World} {D:DiskD} {S S1 X:Nat→Prop} {x:Int×DiskD}
  (hc:Calls P f args w (RPost gr S1 w x)) (hd:ROwn B w gr D S1) (hB:B≤w.heap.size) (hcw:Chg X w0 w) (hSX:∀ k,S k→X k) (hS1:∀ k,S1 k→S k∨w0.heap.size≤k) :
  Calls P f args w (fun e' w'=>e'=.returned (.int .i64 x.1)∧∃ S2,ROwn B w' gr x.2 S2∧(∀ k,S2 k→S k∨w0.heap.size≤k)∧((∀ k,S2 k→S1 k∨w.heap.size≤k)∧Chg S1 w w')∧Chg X w0 w'∧w.heap.size≤w'.heap.size):=by
 refine hc.mono ?_;rintro e' w' ⟨rfl,h1,hX⟩;have hsz:=hcw.size;refine ⟨Z,Ext S1 w w',hd.step h1 hX hB,?_,⟨?_,hX⟩,hcw.next hX (fun i hi=>(hS1 i hi).imp (hSX i) id),hX.size⟩
 ·rintro k (h|⟨h,_⟩)
  ·exact hS1 k h
  ·right; omega
 ·rintro k (h|⟨h,_⟩)
  ·exact .inl h
  ·exact .inr h
theorem bwz (w:World):(Instr.build 37 #[]).run Tryz.prog w=.ok (.agg #[.bool false,.int .i64 0,.slice none 0 0,.bool false]) w:=by kernel_rfl
theorem bwn (n:Int) (w:World):(Instr.build 37 #[(0,.bool true),(1,.int .i64 n)]).run Tryz.prog w=.ok (.agg #[.bool true,.int .i64 n,.slice none 0 0,.bool false]) w:=by kernel_rfl
section
variable {B gr:Nat} {w:World} {D:DiskD} {S:Nat→Prop}
theorem Qsw (hd:RDisk w gr D S) (k:Key) (hok:DOk D) (hbud:DBud D):Calls Tryz.prog 88 #[.pointer (some ⟨gr,0,none⟩),Qv k] w fun e w'=>e=.returned (.int .i64 (ZS D k).1)∧Below w.heap.size w w':=by
 refine Qj (args:=[.pointer (some ⟨gr,0,none⟩),Qv k]) 15 Tryz.func88 Z Z Z<|Qt [(0,.pointer (some ⟨gr,0,none⟩)),(1,Qv k)] ?_ ⟨Z,Z,tvA⟩
 have bw:=Below.refl w.heap.size w
 refine Qa<|sa Z Z<|Wn<|tN<|Qa<|sm Z Z<|sm Z Z<|sc _ fz100 Z Qo Z Z (Q3 (X0 gr D S _ hd k hok hbud) fun w1 hb=>?_)
 replace bw:=Ql bw hb;have zz1:=hb.size;clear hb
 refine sm Z Z<|st (Qu Z Z) Z<|st (Qu Z Z) Z<|sa Z Z<|sa Z Z<|Wn<|tN<|Qa<|sm Z Z<|st (QP Z Z uz9) Z<|sa Z Z<|Wn<|tN<|Qg ?_
 exact (rT Z Z ⟨by rw [← Qms],bw⟩).1
def Qpb (B:Nat) (w:World) (gr:Nat) (S:Nat→Prop) (n:Int) (r:Int×DiskD) (e:Ending) (w':World):Prop :=
  e=.returned (.tuple #[.agg #[.bool (decide (r.1=0)),.int .i64 (if r.1=0 then n else 0),.slice none 0 0,.bool false],.int .i64 r.1])∧∃ S',ROwn B w' gr r.2 S'∧(∀ k,S' k→S k∨w.heap.size≤k)∧Chg S w w'
theorem Qpa (n:Int) (N:Nat) (hd:ROwn B w gr D S) (hB:B≤w.heap.size) (hg:Good N D) (hN:N≤900000000) (hfw:D.files.length≤100000):Calls Tryz.prog 37 #[.pointer (some ⟨gr,0,none⟩),.int .i64 n] w (Qpb B w gr S n (Q2 D n)):=by
 have hg1:=ZC hg (Qz n);have hg2:=JB hg1 (Qz n) (JX n);have hhl:=YN n;have hf1:=UY D (Qz n);have hf2:=K4 (QV D (Qz n)).2 (Qz n) (JX n);have hnl:=Qcp n
 have hS1:∀ k,S k→S k∨w.heap.size≤k:=fun k hk=>.inl hk
 have hSlo:=hd.lo;unfold Q2
 refine Qj (args:=[.pointer (some ⟨gr,0,none⟩),.int .i64 n]) 39 Tryz.func37 Z Z Z<|Qt [(0,.pointer (some ⟨gr,0,none⟩)),(1,.int .i64 n)] ?_ ⟨Z,Z,tvA⟩
 have hcw:=Chg.refl (S) w
 refine Qa<|Jm inf37 Z (fun g4 w1 hB4 hg4 hb hl4=>?_)
 replace hcw:=hcw.then_below hb;replace hd:=hd.bel hb;have zz1:=hb.size;clear hb
 refine sa Z Z<|Wn<|tN<|Qe<|Qa<|sm Z Z<|st (QJ Z Z) Z<|sb Z Z (fun h9=>?_) (fun h9=>?_)
 ·replace h9:=Qs h9
  refine gN Z Z Z Z<|gN Z Z Z Z<|st (Qm Z Z) Z<|Wn<|tN<|QO Z (Z)<|Qa<|st (Ja Z (bwz _)) Z<|QY Z Z hB4 siz37 Z Z (fun w2 bB cC=>?_)
  replace hB4:=bB;replace hd:=hd.other cC (fun k hk e=>by have h1:k=g4:=hk; have:=hSlo k e; omega);replace hcw:=hcw.next cC (fun i hi=>.inr (by have h1:i=g4:=hi; omega));clear bB cC
  refine sa Z Z<|Wn<|tN<|Qg<|tR ?_
  rw [if_pos (by unfold QU; rw [decide_eq_false_iff_not]; omega)];exact (KW Z Z hB4 uz37 Z siz37 Z ⟨Z,S,hd,hS1,hcw⟩).1
 ·replace h9:=Qs h9
  refine gY Z Z Z<|sm Z Z<|gY Z Z Z<|st (Jg Z Z) Z<|st (Qq Z Z) Z<|Wn<|tN<|Qx Z (fun h12=>?_) (fun h12=>?_)
  ·replace h12:=Qs h12
   refine Qa<|st (Ja Z (bwz _)) Z<|QY Z Z hB4 siz37 Z Z (fun w3 bB cC=>?_)
   replace hB4:=bB;replace hd:=hd.other cC (fun k hk e=>by have h1:k=g4:=hk; have:=hSlo k e; omega);replace hcw:=hcw.next cC (fun i hi=>.inr (by have h1:i=g4:=hi; omega));clear bB cC
   refine sa Z Z<|Wn<|tN<|Qg<|tR ?_
   rw [if_pos (by unfold QU; rw [decide_eq_false_iff_not]; omega)];exact (KW Z Z hB4 uz37 Z siz37 Z ⟨Z,S,hd,hS1,hcw⟩).1
  ·replace h12:=Qs h12;rw [if_neg (by unfold QU; rw [decide_eq_false_iff_not]; omega)]
   refine Qf<|tN<|Qa<|sm Z Z<|sm Z Z<|sc _ fz21 Z Qo Z Z (Q3 (Yd n _) fun w4 hb=>?_)
   replace hcw:=hcw.then_below hb;replace hd:=hd.bel hb;replace hB4:=hB4.bel hb;have zz4:=hb.size;clear hb
   refine sc _ fz83 Z Qo Z Z<|(rdisk (Qap gr D S _ hd.at_ (Qz n) hg.ok Qb Qb) hd (Nat.le_trans hB hcw.size) hcw (fun k hk=>hk) hS1).mono ?_
   clear hd;rintro e_ w5 ⟨rfl,S1,hd,hS1,hX2,hcw,hz1_⟩;refine cR ?_;replace hB4:=hB4.chg hX2.2 (fun e=>by have:=hSlo g4 e; omega)
   have hn4:∀ k,S1 k→k≠g4:=fun k hk e=>by rcases hX2.1 k hk with h|h; have:=hSlo k h; omega; omega
   clear hX2
   obtain ⟨e1,D1,hp1⟩:∃ e D',QV D (Qz n)=(e,D'):=⟨_,_,rfl⟩
   rw [hp1] at hd hg1 hg2 hf1 hf2 ⊢;simp only at hd hg1 hg2 hf1 hf2 ⊢
   refine sa Z Z<|Wn<|tN<|Qe<|Qa<|sm Z Z<|st (QC Z Z) Z<|Wn<|tN<|Qx Z (fun h19=>?_) (fun h19=>?_)
   ·replace h19:=Qs h19;rw [if_pos h19]
    refine Qa<|st (Ja Z (bwz _)) Z<|sm Z Z<|QY Z Z hB4 siz37 Z Z (fun w6 bB cC=>?_)
    replace hB4:=bB;replace hd:=hd.other cC (fun k hk e=>hn4 k e hk);replace hcw:=hcw.next cC (fun i hi=>.inr (by have h1:i=g4:=hi; omega));clear bB cC
    refine sa Z Z<|Wn<|tN<|Qg<|tR ?_
    exact (KW Z Z hB4 uz37 Z siz37 Z ⟨by rw [decide_eq_false h19,if_neg h19],S1,hd,hS1,hcw⟩).1
   ·replace h19:=Qs h19;rw [if_neg h19]
    have hr0:0≤n∧n≤999999:=by omega
    refine Qf<|tN<|Qa<|sm Z Z<|sm Z Z<|sc _ fz21 Z Qo Z Z (Q3 (Yd n _) fun w7 hb=>?_)
    replace hcw:=hcw.then_below hb;replace hd:=hd.bel hb;replace hB4:=hB4.bel hb;have zz7:=hb.size;clear hb
    refine sm Z Z<|sc _ fz86 Z Qo Z Z (Q3 (YJ n _ Qb Qb) fun w8 hb=>?_)
    replace hcw:=hcw.then_below hb;replace hd:=hd.bel hb;replace hB4:=hB4.bel hb;have zz8:=hb.size;clear hb;refine sc _ Tryz.func85 Z Qo Z Z (Q3 (H7 1 (JR n) _ (by rw [Q9]; omega)) fun w9 hb=>?_);replace hcw:=hcw.then_below hb;replace hd:=hd.bel hb;replace hB4:=hB4.bel hb;have zz9:=hb.size;clear hb
    refine sc _ fz84 Z Qo Z Z<|(rdisk (Um gr D1 _ _ hd.at_ (Qz n) (JX n) hg1.ok (hg1.bud Qb) Qb) hd (Nat.le_trans hB hcw.size) hcw (fun k hk=>hk) hS1).mono ?_
    clear hd;rintro e_ w10 ⟨rfl,S2,hd,hS1,hX2,hcw,hz2_⟩;refine cR ?_;replace hB4:=hB4.chg hX2.2 (fun e=>hn4 g4 e rfl)
    have hn5:∀ k,S2 k→k≠g4:=fun k hk e=>by rcases hX2.1 k hk with h|h; exact hn4 k h e; omega
    clear hX2
    obtain ⟨e2,D2,hp2⟩:∃ e D',QI D1 (Qz n) (JX n)=(e,D'):=⟨_,_,rfl⟩
    rw [hp2] at hd hg2 hf2 ⊢;simp only at hd hg2 hf2 ⊢
    refine sa Z Z<|Wn<|tN<|Qe<|Qa<|sm Z Z<|st (QC Z Z) Z<|Wn<|tN<|Qx Z (fun h30=>?_) (fun h30=>?_)
    ·replace h30:=Qs h30;rw [if_pos h30]
     refine Qa<|sm Z Z<|sm Z Z<|sc _ fz21 Z Qo Z Z (Q3 (Yd n _) fun w11 hb=>?_)
     replace hcw:=hcw.then_below hb;replace hd:=hd.bel hb;replace hB4:=hB4.bel hb;have zz11:=hb.size;clear hb
     refine sc _ fz69 Z Qo Z Z<|(rdisk (Ul gr D2 _ _ hd.at_ (Qz n) hg2.ok Qb) hd (Nat.le_trans hB hcw.size) hcw (fun k hk=>hk) hS1).mono ?_
     clear hd;rintro e_ w12 ⟨rfl,S3,hd,hS1,hX2,hcw,hz3_⟩;refine cR ?_;replace hB4:=hB4.chg hX2.2 (fun e=>hn5 g4 e rfl)
     have hn6:∀ k,S3 k→k≠g4:=fun k hk e=>by rcases hX2.1 k hk with h|h; exact hn5 k h e; omega
     clear hX2
     refine Wn<|tN<|Qa<|st (Ja Z (bwz _)) Z<|sm Z Z<|QY Z Z hB4 siz37 Z Z (fun w13 bB cC=>?_)
     replace hB4:=bB;replace hd:=hd.other cC (fun k hk e=>hn6 k e hk);replace hcw:=hcw.next cC (fun i hi=>.inr (by have h1:i=g4:=hi; omega));clear bB cC
     refine sa Z Z<|Wn<|tN<|Qg<|tR ?_
     exact (KW Z Z hB4 uz37 Z siz37 Z ⟨by rw [decide_eq_false h30,if_neg h30],S3,hd,hS1,hcw⟩).1
    ·replace h30:=Qs h30;obtain rfl:e2=0:=Decidable.of_not_not h30;rw [if_neg h30]
     refine Qf<|tN<|Qa<|sm Z Z<|st (Ja Z (bwn _ _)) Z<|QY Z Z hB4 siz37 Z Z (fun w14 bB cC=>?_)
     replace hB4:=bB;replace hd:=hd.other cC (fun k hk e=>hn5 k e hk);replace hcw:=hcw.next cC (fun i hi=>.inr (by have h1:i=g4:=hi; omega));clear bB cC
     refine sa Z Z<|Wn<|tN<|Qg ?_
     exact (KW Z Z hB4 uz37 Z siz37 Z ⟨by rw [decide_eq_true Z,if_pos Z],S2,hd,hS1,hcw⟩).1
def RKeep (B:Nat) (w:World) (gr:Nat) (S:Nat→Prop) (D:DiskD) (w':World):Prop:=∃ S',ROwn B w' gr D S'∧(∀ k,S' k→S k∨w.heap.size≤k)∧Chg S w w'
theorem Qsy (n:Int) (u:Value) (l:List Ent) (N:Nat) (hd:ROwn B w gr D S) (hB:B≤w.heap.size) (hg:Good N D) (hN:N≤900000000) (hfw:D.files.length≤100000) (hq:D.stops=false) (hE:REnts w u l) (h32:Yt l) (hfit:l.all Ze=true) (hu:∀ k,u.ownBlock=some k→¬S k) (hl:l.length≤10000) :
  Calls Tryz.prog 63 #[.pointer (some ⟨gr,0,none⟩),.int .i64 n,u] w fun e w'=>e=.returned (.int .i64 (JK D n l).1)∧RKeep B w gr S (JK D n l).2 w':=by
 have hlen:=XE h32;have hg0:=ZU hg (Q1 n);have hg1:=ZC hg0 (Q1 n);have hg2:=JB hg1 (Q1 n) (ZH l);have hil:=Qha n;have hf0:=YT D (Q1 n);have hf1:=UY (Q7 D (Q1 n)).2 (Q1 n);have hf2:=K4 (QV (Q7 D (Q1 n)).2 (Q1 n)).2 (Q1 n) (ZH l);have hnl:=Qur n
 have hS1:∀ k,S k→S k∨w.heap.size≤k:=fun k hk=>.inl hk
 rw [Qac hq hg.ok.srt];obtain ⟨ua,uc,rfl,hun,huc⟩:=hE.shape
 refine Qj (args:=[.pointer (some ⟨gr,0,none⟩),.int .i64 n,.slice ua l.length uc]) 43 fz63 Z Z Z<|Qt [(0,.pointer (some ⟨gr,0,none⟩)),(1,.int .i64 n),(2,.slice ua l.length uc)] ?_ ⟨Z,Z,Z,tvA⟩
 have hcw:=Chg.refl (S) w
 refine Qa<|sa Z Z<|Wn<|tN<|Qe<|Qa<|sm Z Z<|st (QJ Z Z) Z<|sb Z Z (fun h11=>?_) (fun h11=>?_)
 ·replace h11:=Qs h11
  refine gN Z Z Z Z<|gN Z Z Z Z<|st (Qm Z Z) Z<|Wn<|tN<|QO Z (Z)<|Qa<|sa Z Z<|Wn<|tN<|Qg<|tR ?_
  rw [if_pos (by unfold QU; rw [decide_eq_false_iff_not]; omega)];exact (rT Z Z ⟨Z,S,hd,hS1,hcw⟩).1
 ·replace h11:=Qs h11
  refine gY Z Z Z<|sm Z Z<|gY Z Z Z<|st (Jg Z Z) Z<|st (Qq Z Z) Z<|Wn<|tN<|Qx Z (fun h14=>?_) (fun h14=>?_)
  ·replace h14:=Qs h14
   refine Qa<|sa Z Z<|Wn<|tN<|Qg<|tR ?_
   rw [if_pos (by unfold QU; rw [decide_eq_false_iff_not]; omega)];exact (rT Z Z ⟨Z,S,hd,hS1,hcw⟩).1
  ·replace h14:=Qs h14;rw [if_neg (by unfold QU; rw [decide_eq_false_iff_not]; omega)]
   refine Qf<|tN<|Qa<|sm Z Z<|sc _ fz70 Z Qo Z Z (Q3 (YI n _) fun w1 hb=>?_)
   replace hcw:=hcw.then_below hb;replace hd:=hd.bel hb;have zz1:=hb.size;clear hb;refine st (JV Z Z (by show (Zz n).length+4≤_; omega)) Z ?_
   refine sa Z Z<|Wn<|tN<|Qa<|sm Z Z<|sm Z Z<|sc _ fz69 Z Qo Z Z<|(rdisk (Ul gr D S _ hd.at_ (Q1 n) hg.ok Qb) hd (Nat.le_trans hB hcw.size) hcw (fun k hk=>hk) hS1).mono ?_
   clear hd;rintro e_ w2 ⟨rfl,S1,hd,hS1,hX2,hcw,hz1_⟩;refine cR ?_;clear hX2
   obtain ⟨e1,D1,hp1⟩:∃ e D',Q7 D (Q1 n)=(e,D'):=⟨_,_,rfl⟩
   rw [hp1] at hd hg0 hg1 hg2 hf0 hf1 hf2 ⊢;simp only at hd hg0 hg1 hg2 hf0 hf1 hf2 ⊢
   refine Wn<|tN<|Qa<|sm Z Z<|sm Z Z<|sc _ fz83 Z Qo Z Z<|(rdisk (Qap gr D1 _ _ hd.at_ (Q1 n) hg0.ok Qb Qb) hd (Nat.le_trans hB hcw.size) hcw (fun k hk=>hk) hS1).mono ?_
   clear hd;rintro e_ w3 ⟨rfl,S2,hd,hS1,hX2,hcw,hz2_⟩;refine cR ?_;clear hX2
   obtain ⟨e2,D2,hp2⟩:∃ e D',QV D1 (Q1 n)=(e,D'):=⟨_,_,rfl⟩
   rw [hp2] at hd hg1 hg2 hf1 hf2 ⊢;simp only at hd hg1 hg2 hf1 hf2 ⊢
   refine Wn<|tN<|Qa<|sm Z Z<|sm Z Z<|sm Z Z<|sc _ Tryz.func110 Z Qo Z Z (Q3 (Qao _ l _ (Reads.chgS hE hcw (fun _ k hk=>hu k hk)) h32 hfit Qb) fun w4 hb=>?_)
   replace hcw:=hcw.then_below hb;replace hd:=hd.bel hb;have zz4:=hb.size;clear hb
   refine sc _ fz84 Z Qo Z Z<|(rdisk (Um gr D2 _ _ hd.at_ (Q1 n) (ZH l) hg1.ok (hg1.bud Qb) Qb) hd (Nat.le_trans hB hcw.size) hcw (fun k hk=>hk) hS1).mono ?_
   clear hd;rintro e_ w5 ⟨rfl,S3,hd,hS1,hX2,hcw,hz3_⟩;refine cR ?_;clear hX2
   obtain ⟨e3,D3,hp3⟩:∃ e D',QI D2 (Q1 n) (ZH l)=(e,D'):=⟨_,_,rfl⟩
   rw [hp3] at hd hg2 hf2 ⊢;simp only at hd hg2 hf2 ⊢
   refine sa Z Z<|Wn<|tN<|Qe<|Qa<|sm Z Z<|st (QC Z Z) Z<|Wn<|tN<|Qx Z (fun h30=>?_) (fun h30=>?_)
   ·replace h30:=Qs h30;rw [if_pos h30]
    refine Qa<|sm Z Z<|sm Z Z<|sc _ fz69 Z Qo Z Z<|(rdisk (Ul gr D3 _ _ hd.at_ (Q1 n) hg2.ok Qb) hd (Nat.le_trans hB hcw.size) hcw (fun k hk=>hk) hS1).mono ?_
    clear hd;rintro e_ w6 ⟨rfl,S4,hd,hS1,hX2,hcw,hz4_⟩
    refine cR<|Wn<|tN<|Qa<|sm Z Z<|sa Z Z<|Wn<|tN<|Qg<|tR ?_
    exact (rT Z Z ⟨Z,S4,hd,hS1,hcw⟩).1
   ·replace h30:=Qs h30;rw [if_neg h30]
    refine Qf<|tN<|Qa<|sm Z Z<|sm Z Z<|sc _ fz94 Z Qo Z Z<|(rdisk (Qgb gr D3 _ _ hd.at_ (Q1 n) hg2.ok (hg2.bud Qb)) hd (Nat.le_trans hB hcw.size) hcw (fun k hk=>hk) hS1).mono ?_
    clear hd;rintro e_ w7 ⟨rfl,S5,hd,hS1,hX2,hcw,hz5_⟩;refine cR ?_;have hg5:=YK hg2 (Q1 n);have hf5:=Qcb D3 (Q1 n);clear hX2
    refine Wn<|tN<|Qa<|sm Z Z<|sm Z Z<|sm Z Z<|sc _ fz70 Z Qo Z Z (Q3 (YI n _) fun w8 hb=>?_)
    replace hcw:=hcw.then_below hb;replace hd:=hd.bel hb;have zz8:=hb.size;clear hb
    refine sc _ fz111 Z Qo Z Z<|(rdisk (Qlw gr _ _ _ hd.at_ (Q1 n) (Zz n) hg5.ok Qb Qb) hd (Nat.le_trans hB hcw.size) hcw (fun k hk=>hk) hS1).mono ?_
    clear hd;rintro e_ w9 ⟨rfl,S6,hd,hS1,hX2,hcw,hz6_⟩
    refine cR<|sa Z Z<|Wn<|tN<|Qg ?_
    exact (rT Z Z ⟨Z,S6,hd,hS1,hcw⟩).1
end
end
section
open Go.RowKit Sha
def ZW (gd gr:Nat) (pw pp:Option Addr) (is:Bool) (n:Int) (uL:Value) (cl:Bool) (fL:Value) (fg:Int) (fw:Bool) (pn:Int) (po:Bool):Array Value :=
  #[.pointer (some ⟨gd,0,none⟩),.pointer pw,.pointer pp,.pointer (some ⟨gr,0,none⟩),.bool is,.int .i64 n,uL,.bool cl,fL,.int .i64 fg,.bool fw,.int .i64 pn,.bool po]
theorem Qii (w:World):(Instr.build 95 #[]).run Tryz.prog w=.ok (.agg (Jh ⟨[],0,0,0⟩).toArray) w:=by kernel_rfl
section
variable {B gs gd gr:Nat} {w:World} {D:DiskD} {R:Nat→Prop} {pw pp:Option Addr} {x:Wri} {uL fL:Value} {fg pn:Int} {fw po:Bool}
def Qef (B:Nat) (w:World) (gs gd gr:Nat) (R:Nat→Prop) (pw pp:Option Addr) (uL fL:Value) (fg pn:Int) (fw po:Bool) (x':Wri) (D':DiskD) (w':World):Prop :=
  ∃ uL' R',Blk w' gs 41 (ZW gd gr pw pp true x'.n uL' x'.closed fL fg fw pn po)∧Row w' 95 4 uL' x'.l.length (x'.l.flatMap Jh)∧ROwn B w' gr D' R'∧(∀ k,R' k→R k∨w.heap.size≤k)∧(∀ k,uL'.ownBlock=some k→uL.ownBlock=some k∨w.heap.size≤k)∧(∀ k,uL'.ownBlock=some k→¬R' k)∧Chg (fun k=>R k∨k=gs∨uL.ownBlock=some k) w w'
theorem Qxd (d:List UInt8) (N:Nat) (hB:Blk w gs 41 (ZW gd gr pw pp true x.n uL x.closed fL fg fw pn po)) (hL:Row w 95 4 uL x.l.length (x.l.flatMap Jh)) (hd:ROwn B w gr D R) (hBw:B≤w.heap.size)
  (hgs:¬R gs) (hu:∀ k,uL.ownBlock=some k→¬R k) (hq:D.stops=false) (hg:Good N D) (hN:N≤900000000) (hdl:d.length≤999000) (hl:x.l.length≤100000) :
  Calls Tryz.prog 38 #[.pointer (some ⟨gs,4,none⟩),.pointer (some ⟨gr,0,none⟩),Qv d] w fun e w'=>∃ en,e=.returned (.tuple #[.agg (Jh en).toArray,.int .i64 (QD D x d).1.2])∧((QD D x d).1.2=0∨(QD D x d).1.2=16→en=(QD D x d).1.1) ∧
   Qef B w gs gd gr R pw pp uL fL fg pn fw po (QD D x d).2.1 (QD D x d).2.2 w':=by
 have hcb:Chg (fun k=>R k∨k=gs∨uL.ownBlock=some k) w w:=Chg.of_below X4 _;have hsha:(sha d).length=32:=JD d;have hlt:=hB.lt;have hul:=X7 hL;have hRlo:=hd.lo;have hnl:=Qcp x.n;have hne:=hL.ne2 hB QF;obtain ⟨p,cp,rfl,hp1,hp2⟩:=hL.shape
 have hR1:∀ k,R k→R k∨w.heap.size≤k:=fun k hk=>.inl hk
 have hfi:=YX (sha d) x.l 0;unfold ZW at hB
 have hsame:∀ {w':World} {cw},Blk w' gs 41 (ZW gd gr pw pp true x.n (.slice p x.l.length cp) x.closed fL fg fw pn po)→Row w' 95 4 (.slice p x.l.length cp) x.l.length (x.l.flatMap Jh)→ROwn B w' gr D R→Chg (fun k=>R k∨k=gs∨(Value.slice p x.l.length cp).ownBlock=some k) w w'→cw=x→Qef B w gs gd gr R pw pp (.slice p x.l.length cp) fL fg pn fw po cw D w':=by
  rintro w' cw h1 h2 h3 h4 rfl;exact ⟨_,R,h1,h2,h3,hR1,fun k hk=>.inl hk,hu,h4⟩
 refine Qj (args:=[.pointer (some ⟨gs,4,none⟩),.pointer (some ⟨gr,0,none⟩),Qv d]) 85 fz38 Z Z Z<|Qt [(0,.pointer (some ⟨gs,4,none⟩)),(1,.pointer (some ⟨gr,0,none⟩)),(2,Qv d)] ?_ ⟨Z,Z,Z,tvA⟩
 have hcw:=Chg.refl (fun k=>R k∨k=gs∨(Value.slice p x.l.length cp).ownBlock=some k) w
 refine Qa<|Jm inf95 Z (fun g6 w1 hB6 hg6 hb hl6=>?_)
 replace hcw:=hcw.then_below hb;replace hB:=hB.bel hb;replace hL:=hL.bel hb;replace hd:=hd.bel hb;have zz1:=hb.size;clear hb
 refine sa Z Z<|Wn<|tN<|Qe<|Qa<|sm Z Z<|st (Qc Z) Z<|st (Qk Qob Z) Z<|st (Qi Z hB uz4 Z Z) Z<|sb Z Z (fun h17=>?_) (fun h17=>?_)
 ·replace h17:=Qs h17
  refine gN Z Z Z Z<|gN Z Z Z Z<|st (Qm Z Z) Z<|Wn<|tN<|QO Z (Z)<|Qa<|st (Ja Z (Qii _)) Z<|QY Z Z hB6 siz95 Z Z (fun w2 bB cC=>?_)
  replace hB6:=bB;replace hB:=hB.chg cC (by show ¬gs=g6; omega);replace hL:=hL.chg cC (fun k hk e=>by have h1:k=g6:=e; have:=hul k hk; omega);replace hd:=hd.other cC (fun k hk e=>by have h1:k=g6:=hk; have:=hRlo k e; omega);replace hcw:=hcw.next cC (fun i hi=>.inr (by have h1:i=g6:=hi; omega));clear bB cC
  refine sa Z Z<|Wn<|tN<|Qg<|tR ?_
  have hp:QD D x d=((eZ,1),x,D):=by unfold QD; rw [if_pos (.inl h17)]
  rw [hp];exact (KW Z Z hB6 uz95 Z siz95 Z ⟨_,Z,fun h=>by simp at h,hsame hB hL hd hcw Z⟩).1
 ·replace h17:=Qs h17
  refine gY Z Z Z<|sm Z Z<|gY Z Z Z<|st (KR Z Z) Z<|st (Qq Z Z) Z<|Wn<|tN<|Qx Z (fun h20=>?_) (fun h20=>?_)
  ·replace h20:=Qs h20
   refine Qa<|st (Ja Z (Qii _)) Z<|QY Z Z hB6 siz95 Z Z (fun w3 bB cC=>?_)
   replace hB6:=bB;replace hB:=hB.chg cC (by show ¬gs=g6; omega);replace hL:=hL.chg cC (fun k hk e=>by have h1:k=g6:=e; have:=hul k hk; omega);replace hd:=hd.other cC (fun k hk e=>by have h1:k=g6:=hk; have:=hRlo k e; omega);replace hcw:=hcw.next cC (fun i hi=>.inr (by have h1:i=g6:=hi; omega));clear bB cC
   refine sa Z Z<|Wn<|tN<|Qg<|tR ?_
   have hp:QD D x d=((eZ,1),x,D):=by unfold QD; rw [if_pos (.inr h20)]
   rw [hp];exact (KW Z Z hB6 uz95 Z siz95 Z ⟨_,Z,fun h=>by simp at h,hsame hB hL hd hcw Z⟩).1
  ·replace h20:=Qs h20
   have hn1:¬(x.closed=true∨d=[]):=by rintro (e|e); rw [h17] at e; cases e; exact h20 e
   refine Qf<|tN<|Qe<|Qa<|sm Z Z<|st (QP Z Z uz9) Z<|st (Jg Z Z) Z<|Wn<|tN<|Qx Z (fun h24=>?_) (fun h24=>?_)
   ·replace h24:=Qs h24
    have hp:QD D x d=((eZ,31),x,D):=by unfold QD; rw [if_neg hn1,if_pos Qb]
    refine Qa<|st (Ja Z (Qii _)) Z<|QY Z Z hB6 siz95 Z Z (fun w4 bB cC=>?_)
    replace hB6:=bB;replace hB:=hB.chg cC (by show ¬gs=g6; omega);replace hL:=hL.chg cC (fun k hk e=>by have h1:k=g6:=e; have:=hul k hk; omega);replace hd:=hd.other cC (fun k hk e=>by have h1:k=g6:=hk; have:=hRlo k e; omega);replace hcw:=hcw.next cC (fun i hi=>.inr (by have h1:i=g6:=hi; omega));clear bB cC
    refine sa Z Z<|Wn<|tN<|Qg<|tR ?_
    rw [hp];exact (KW Z Z hB6 uz95 Z siz95 Z ⟨_,Z,fun h=>by simp at h,hsame hB hL hd hcw Z⟩).1
   ·replace h24:=Qs h24
    have hn2:¬1024<d.length:=by omega
    refine Qf<|tN<|Qa<|sm Z Z<|sc _ fz57 Z Qo Z Z (Q3 (XK d _ Qb) fun w5 hb=>?_)
    replace hcw:=hcw.then_below hb;replace hB:=hB.bel hb;replace hL:=hL.bel hb;replace hd:=hd.bel hb;replace hB6:=hB6.bel hb;have zz5:=hb.size;clear hb
    refine sa Z Z<|Wn<|tN<|Qa<|sm Z Z<|st (Qc Z) Z<|st (Qk Y1 Z) Z<|st (Qi Z hB uz35 Z Z) Z<|sm Z Z<|sc _ Tryz.func87 Z Qo Z Z (Q3 (Qee _ x.l (sha d) _ hL.reads) fun w6 hb=>?_)
    replace hcw:=hcw.then_below hb;replace hB:=hB.bel hb;replace hL:=hL.bel hb;replace hd:=hd.bel hb;replace hB6:=hB6.bel hb;have zz6:=hb.size;clear hb
    refine sa Z Z<|Wn<|tN<|Qe<|Qa<|sm Z Z<|st (Z1 Z Z) Z<|Wn<|tN<|Qx Z (fun h35=>?_) (fun h35=>?_)
    ·replace h35:=Qs h35;obtain ⟨i,en,hi,hgi,hes,hfm⟩:∃ i e,hadI 0 x.l (sha d)=((i:Nat):Int)∧x.l[i]?=some e∧e.sum=sha d∧Zf x.l (sha d)=some e:=Qpu Qb
     have hp:QD D x d=((en,16),x,D):=by unfold QD; rw [if_neg hn1,if_neg hn2,hfm]
     rw [hi];have hil:i<x.l.length:=(List.getElem?_eq_some_iff.1 hgi).1;have hRr:=hL.reads;obtain ⟨g1,o1,c',hvv,hg1⟩:=hRr.some_ Qb;injection hvv with e1 _ e3;subst e1 e3;have hRg:(w6).rangeAt g1 (o1+i*4) (Jh en):=REnts.range hRr hgi;clear hRr
     refine Qa<|sm Z Z<|st (Qc Z) Z<|st (Qk Y1 Z) Z<|st (Qi Z hB uz35 Z Z) Z<|sm Z Z<|st (QA Z Z uz35 siz95 Z Qb) Z<|st (Jw (cs:=Jh en) Z uz95 Z siz95 hRg) Z<|QY Z Z hB6 siz95 Z (YU en) (fun w7 bB cC=>?_)
     replace hB6:=bB;replace hB:=hB.chg cC (by show ¬gs=g6; omega);replace hL:=hL.chg cC (fun k hk e=>by have h1:k=g6:=e; have:=hul k hk; omega);replace hd:=hd.other cC (fun k hk e=>by have h1:k=g6:=hk; have:=hRlo k e; omega);replace hcw:=hcw.next cC (fun i hi=>.inr (by have h1:i=g6:=hi; omega));clear bB cC
     refine sa Z Z<|Wn<|tN<|Qg<|tR ?_
     rw [hp];exact (KW Z Z hB6 uz95 Z siz95 Z ⟨_,Z,fun _=>rfl,hsame hB hL hd hcw Z⟩).1
    ·replace h35:=Qs h35;have hfn:Zf x.l (sha d)=none:=Qkw Qb
     refine Qf<|tN<|Qa<|sm Z Z<|sm Z Z<|st (Qc Z) Z<|st (Qk Qdn Z) Z<|st (Qi Z hB uz3 Z Z) Z<|sc _ fz21 Z Qo Z Z (Q3 (Yd x.n _) fun w8 hb=>?_)
     replace hcw:=hcw.then_below hb;replace hB:=hB.bel hb;replace hL:=hL.bel hb;replace hd:=hd.bel hb;replace hB6:=hB6.bel hb;have zz8:=hb.size;clear hb;refine sc _ Tryz.func88 Z Qo Z Z (Q3 (Qsw hd.at_ (Qz x.n) hg.ok (hg.bud Qb)) fun w9 hb=>?_);replace hcw:=hcw.then_below hb;replace hB:=hB.bel hb;replace hL:=hL.bel hb;replace hd:=hd.bel hb;replace hB6:=hB6.bel hb;have zz9:=hb.size;clear hb
     refine sa Z Z<|Wn<|tN<|Qa<|sm Z Z<|sm Z Z<|st (Qc Z) Z<|st (Qk Qdn Z) Z<|st (Qi Z hB uz3 Z Z) Z<|sc _ fz21 Z Qo Z Z (Q3 (Yd x.n _) fun w10 hb=>?_)
     replace hcw:=hcw.then_below hb;replace hB:=hB.bel hb;replace hL:=hL.bel hb;replace hd:=hd.bel hb;replace hB6:=hB6.bel hb;have zz10:=hb.size;clear hb
     refine sm Z Z<|sm Z Z<|st (JV Z Z Qb) Z<|sc _ Tryz.func85 Z Qo Z Z (Q3 (H7 2 (sha d++d) _ (by rw [List.length_append]; omega)) fun w11 hb=>?_)
     replace hcw:=hcw.then_below hb;replace hB:=hB.bel hb;replace hL:=hL.bel hb;replace hd:=hd.bel hb;replace hB6:=hB6.bel hb;have zz11:=hb.size;clear hb;have hcl:=Y4 d Qb
     refine sc _ fz84 Z Qo Z Z<|(rdisk (Um gr D R _ hd.at_ (Qz x.n) (ZI d) hg.ok (hg.bud Qb) Qb) hd (Nat.le_trans hBw hcw.size) hcw (fun k hk=>.inl hk) hR1).mono ?_
     clear hd;rintro e_ w12 ⟨rfl,R1,hd,hR1,hX2,hcw,hz1_⟩;refine cR ?_;replace hB6:=hB6.chg hX2.2 (fun e=>by have:=hRlo g6 e; omega);replace hB:=hB.chg hX2.2 hgs;replace hL:=hL.chg hX2.2 hu
     have hn6:∀ k,R1 k→k≠g6:=fun k hk e=>by rcases hX2.1 k hk with h|h; have:=hRlo k h; omega; omega
     have hRgs:¬R1 gs:=fun e=>(hX2.1 _ e).elim hgs (fun e=>by omega)
     have hRu:∀ k,(Value.slice p x.l.length cp).ownBlock=some k→¬R1 k:=fun k hk e=>(hX2.1 k e).elim (hu k hk) (fun e=>by have:=hul k hk; omega)
     obtain ⟨e1,D1,hap⟩:∃ e1 D1,QI D (Qz x.n) (ZI d)=(e1,D1):=⟨_,_,rfl⟩
     rw [hap] at hd ⊢;simp only at hd ⊢
     have hpe:e1≠0→QD D x d=((eZ,e1),x,D1):=fun he=>by
      unfold QD;rw [if_neg hn1,if_neg hn2,hfn];simp only
      by_cases hs:(ZS D (Qz x.n)).2≠0
      ·have hm:mget D.files (Qz x.n)=none:=by
        cases hm:mget D.files (Qz x.n) with
        | none=>rfl
        | some f=>rw [Uf hm] at hs; exact absurd rfl hs
       rw [if_pos hs];rw [Qlp hq hm] at hap;rw [Vg hm];injection hap with a1 a2;rw [← a1,← a2]
      ·rw [if_neg hs,hap];simp only;rw [if_pos he]
     have hpo:e1=0→QD D x d=((⟨sha d,x.n,(ZS D (Qz x.n)).1,d.length⟩,0),{ x with l:=x.l++[⟨sha d,x.n,(ZS D (Qz x.n)).1,d.length⟩] },D1):=fun he=>by
      unfold QD;rw [if_neg hn1,if_neg hn2,hfn];simp only;obtain ⟨f,hf⟩:=V0 (D:=D) (k:=Qz x.n) (d:=ZI d) hq (by rw [hap]; exact he);rw [if_neg (by rw [Uf hf]; simp),hap];simp only;rw [if_neg (by rw [he]; simp)]
     refine sa Z Z<|Wn<|tN<|Qe<|Qa<|sm Z Z<|st (QC Z Z) Z<|Wn<|tN<|Qx Z (fun h62=>?_) (fun h62=>?_)
     ·replace h62:=Qs h62;rw [hpe h62]
      refine Qa<|st (Ja Z (Qii _)) Z<|sm Z Z<|QY Z Z hB6 siz95 Z Z (fun w13 bB cC=>?_)
      replace hB6:=bB;replace hB:=hB.chg cC (by show ¬gs=g6; omega);replace hL:=hL.chg cC (fun k hk e=>by have h1:k=g6:=e; have:=hul k hk; omega);replace hd:=hd.other cC (fun k hk e=>hn6 k e hk);replace hcw:=hcw.next cC (fun i hi=>.inr (by have h1:i=g6:=hi; omega));clear bB cC
      refine sa Z Z<|Wn<|tN<|Qg<|tR ?_
      have h16:¬(e1=0∨e1=16):=by
       rintro (e|e)
       ·exact h62 e
       ·have ha:=hap;unfold QI at ha;rw [opQ hq] at ha
        cases hm:mget D.files (Qz x.n) with
        | none=>rw [Jd hm] at ha; injection ha with a1 a2; omega
        | some f =>
         rw [QW hm] at ha;unfold Xe at ha
         split at ha
         ·injection ha with a1 a2; omega
         ·split at ha
          ·injection ha with a1 a2; omega
          ·injection ha with a1 a2; omega
      exact (KW Z Z hB6 uz95 Z siz95 Z ⟨_,Z,fun h=>absurd h h16,⟨_,R1,hB,hL,hd,hR1,fun k hk=>.inl hk,hRu,hcw⟩⟩).1
     ·replace h62:=Qs h62;obtain rfl:e1=0:=Decidable.of_not_not h62;rw [hpo rfl];clear hpe hpo
      obtain ⟨en,hen⟩:∃ en:Ent,en=⟨sha d,x.n,(ZS D (Qz x.n)).1,d.length⟩:=⟨_,rfl⟩
      rw [← hen]
      refine Qf<|tN<|Qa<|sm Z Z<|sm Z Z<|st (Qc Z) Z<|st (Qk Qdn Z) Z<|st (Qi Z hB uz3 Z Z) Z<|sm Z Z<|sm Z Z<|st (QP Z Z uz9) Z<|st (Ja Z (brec _ _ _ _ _)) Z ?_
      have hRlo2:=hd.lo;refine Jm inf95 Z (fun g12 w14 hB12 hg12 hb hl12=>?_);replace hcw:=hcw.then_below hb;replace hB:=hB.bel hb;replace hL:=hL.bel hb;replace hd:=hd.bel hb;replace hB6:=hB6.bel hb;have zz14:=hb.size;clear hb
      have hn12_:∀ k,R1 k→k≠g12:=fun k hk e=>by have:=hRlo2 k hk; omega
      refine QY Z Z hB12 siz95 Z (YU _) (fun w15 bB cC=>?_)
      replace hB12:Blk w15 g12 95 (Jh en).toArray:=by rw [hen]; exact bB
      have hlt12:=hB12.lt;replace hB6:=hB6.chg cC (by show ¬g6=g12; omega);replace hB:=hB.chg cC (by show ¬gs=g12; omega);replace hL:=hL.chg cC (fun k hk e=>by have h1:k=g12:=e; have:=hul k hk; omega);have hn12:∀ k,R1 k→k≠g12:=hn12_;replace hd:=hd.other cC (fun k hk e=>hn12 k e hk);replace hcw:=hcw.next cC (fun i hi=>.inr (by have h1:i=g12:=hi; omega));have zz15:=cC.size;clear bB cC
      refine Wn<|tN<|H5 (fun G=>Blk G gs 41 (ZW gd gr pw pp true x.n (.slice p x.l.length cp) x.closed fL fg fw pn po)∧Blk G g12 95 (Jh en).toArray) 7 [true,true,true,true,true,true,false] Qo Qo (⟨hB.drew,hB12.drew⟩) ?_
      obtain ⟨w16,hw_,hb⟩:=QN w15;rw [← hw_];clear hw_;have hS:=hb;replace hcw:=hcw.then_below hb;replace hB:=hB.bel hb;replace hL:=hL.bel hb;replace hd:=hd.bel hb;replace hB6:=hB6.bel hb;replace hB12:=hB12.bel hb;have zz16:=hb.size;clear hb
      refine pY (fun G U=>(Qd Z)) Z<|pY (fun G U=>(Qd Z)) Z<|pY (fun G U=>(Qc Z)) Z<|pY (fun G U=>(Qk Y1 Z)) Z<|pY (fun G U=>(Qi Z U.1 uz35 Z Z)) Z<|pY (fun G U=>(QE Z U.2 uz95 Z siz95)) Z<|pL (fun Q_ hQ_ hP_=>(Zy Z uz35 inf95 Z Z QF QF Z (fun g80 w17 hR80 hg80 hb=>?_)))
      replace hB6:=hB6.bel hb;replace hB:=hB.bel hb;replace hL:=hL.bel hb;replace hd:=hd.bel hb;replace hB12:=hB12.bel hb;replace hcw:=hcw.then_below hb;have hz80:=hb.size;clear hb
      refine Wn<|hQ_ _ _ (⟨hB,hB12⟩) ?_
      clear hQ_ hP_ Q_
      refine pN<|Z4 Z Z uz35 inf95 Z QF hL (hR80.reads.src uz35 (Zb _)) (by simp only [maxLen]; omega) Qb Z (fun v' w18 hR2 hC2 hv2=>?_)
      have hvn:∀ k,v'.ownBlock=some k→(Value.slice p x.l.length cp).ownBlock=some k∨w.heap.size≤k:=fun k hk=>by
       rcases hv2 with e|e
       ·exact .inl (e▸hk)
       ·rw [e] at hk; injection hk with hk; right; have:=hcw.size; omega
      have hRv:∀ k,v'.ownBlock=some k→¬R1 k:=fun k hk=>by
       rcases hv2 with e|e
       ·exact hRu k (e▸hk)
       ·rw [e] at hk; injection hk with hk; intro e2; have:=(hd.lo k e2).2; omega
      have hlt6:=hB6.lt
      have hn6v:∀ k,v'.ownBlock=some k→¬k=g6:=fun k hk e=>by
       rcases hv2 with h|h
       ·have:=hul k (h▸hk); omega
       ·rw [h] at hk; injection hk with hk; omega
      have hgN:∀ k,(Value.slice p x.l.length cp).ownBlock=some k→¬k=g12:=fun k hk e=>by have:=hul k hk; omega
      have hgN6:∀ k,(Value.slice p x.l.length cp).ownBlock=some k→¬k=g6:=fun k hk e=>by have:=hul k hk; omega
      have hlt14:=hB.lt;replace hB6:=hB6.chg hC2 (fun e=>hgN6 _ e rfl);replace hB12:=hB12.chg hC2 (fun e=>hgN _ e rfl);replace hB:=hB.chg hC2 (fun e=>hne _ e rfl);replace hd:=hd.other hC2 (fun k hk e=>hRu k hk e);replace hcw:=hcw.next hC2 (fun i hi=>.inl (.inr (.inr hi)));obtain ⟨a',c',rfl,_,_⟩:=hR2.shape;have hne2:=hR2.ne2 hB QF;have zz18:=hC2.size;clear hC2 hL
      refine st (Qc Z) Z<|st (Qk Y1 Z) Z<|KL Z Z hB siz35 Z Q0 (fun w19 bB cC=>?_)
      replace hB:=bB;have hL:=hR2.chg cC (fun k hk e=>hne2 k hk e);replace hB6:=hB6.chg cC (by show ¬g6=gs; omega);replace hB12:=hB12.chg cC (by show ¬g12=gs; omega);replace hd:=hd.other cC (fun k hk e=>by have h1:k=gs:=hk; subst h1; exact hRgs e);replace hcw:=hcw.next cC (fun i hi=>.inl (.inr (.inl hi)));have zz19:=cC.size;clear bB cC
      refine Wn<|nN<|Qa<|st (QE Z hB12 uz95 Z siz95) Z<|QY Z Z hB6 siz95 Z (YU en) (fun w20 bB cC=>?_)
      replace hB6:=bB;replace hB:=hB.chg cC (by show ¬gs=g6; omega);replace hL:=hL.chg cC (fun k hk e=>by have h1:k=g6:=e; exact hn6v k hk h1);replace hd:=hd.other cC (fun k hk e=>hn6 k e hk);replace hcw:=hcw.next cC (fun i hi=>.inr (by have h1:i=g6:=hi; omega));clear bB cC
      refine sa Z Z<|Wn<|tN<|Qg<|(KW Z Z hB6 uz95 Z siz95 Z ⟨en,Z,fun _=>rfl,⟨.slice a' (x.l.length+1) c',R1,hB,?_,hd,hR1,hvn,hRv,hcw⟩⟩).1
      show Row _ _ 4 _ (x.l++[en]).length ((x.l++[en]).flatMap Jh)
      rw [List.length_append,List.flatMap_append]
      simpa [Value.cells] using hL
theorem Qoz (N:Nat) (hB:Blk w gs 41 (ZW gd gr pw pp true x.n uL x.closed fL fg fw pn po)) (hL:Row w 95 4 uL x.l.length (x.l.flatMap Jh)) (hd:ROwn B w gr D R) (hBw:B≤w.heap.size)
  (hgs:¬R gs) (hu:∀ k,uL.ownBlock=some k→¬R k) (hq:D.stops=false) (hg:Good N D) (hN:N≤900000000) (hl:x.l.length≤100000) :
  Calls Tryz.prog 45 #[.pointer (some ⟨gs,4,none⟩),.pointer (some ⟨gr,0,none⟩)] w fun e w'=>∃ u,e=.returned (.tuple #[u,.int .i64 (Jc D x).1.2])∧REnts w' u (Jc D x).1.1 ∧
   Qef B w gs gd gr R pw pp uL fL fg pn fw po (Jc D x).2.1 (Jc D x).2.2 w':=by
 have hcb:Chg (fun k=>R k∨k=gs∨uL.ownBlock=some k) w w:=Chg.of_below X4 _;have hul:=X7 hL;have hnl:=Qcp x.n;have hne:=hL.ne2 hB QF;obtain ⟨p,cp,rfl,hp1,hp2⟩:=hL.shape
 have hR1:∀ k,R k→R k∨w.heap.size≤k:=fun k hk=>.inl hk
 have hfl:=XW x.l;have hg1:=JB hg (Qz x.n) (Zw x.l);unfold ZW at hB;rw [Qgv hq hg.ok.srt]
 refine Qj (args:=[.pointer (some ⟨gs,4,none⟩),.pointer (some ⟨gr,0,none⟩)]) 43 Tryz.func45 Z Z Z<|Qt [(0,.pointer (some ⟨gs,4,none⟩)),(1,.pointer (some ⟨gr,0,none⟩))] ?_ ⟨Z,Z,tvA⟩
 have hcw:=Chg.refl (fun k=>R k∨k=gs∨(Value.slice p x.l.length cp).ownBlock=some k) w
 refine Qa<|sa Z Z<|sa Z Z<|Wn<|tN<|Qe<|Qa<|sm Z Z<|st (Qc Z) Z<|st (Qk Qob Z) Z<|st (Qi Z hB uz4 Z Z) Z<|Wn<|tN<|Qx Z (fun h10=>?_) (fun h10=>?_)
 ·replace h10:=Qs h10;rw [if_pos h10]
  refine Qa<|sa Z Z<|sa Z Z<|Wn<|tN<|Qg<|tR ?_
  exact (J6 Z Z Z ⟨_,Z,REnts.nil _,⟨_,R,hB,hL,hd,hR1,fun k hk=>.inl hk,hu,hcw⟩⟩).1
 ·replace h10:=Qs h10;rw [if_neg (by rw [h10]; decide)]
  refine Qf<|tN<|QS (fun G=>Blk G gs 41 (ZW gd gr pw pp true x.n (.slice p x.l.length cp) x.closed fL fg fw pn po)) [0,1,2,3,4,6,7,8,9,10,5,11,12,13,14] [Y,Y,Y,Y,Y,Y,Y,Y,Y,Y,false,false,false,false,Y] Qo Qo (hB.drew) ?_
  obtain ⟨w1,hw_,hb⟩:=QN w;rw [← hw_];clear hw_;have hS:=hb;replace hcw:=hcw.then_below hb;replace hB:=hB.bel hb;replace hL:=hL.bel hb;replace hd:=hd.bel hb;have zz1:=hb.size;clear hb
  refine oY Z (fun G U=>(Qd Z)) Z<|oY Z (fun G U=>(Qd Z)) Z<|oY Z (fun G U=>(Qc Z)) Z<|oY Z (fun G U=>(Qk Qdn Z)) Z<|oY Z (fun G U=>(Qi Z U uz3 Z Z)) Z<|oY Z (fun G U=>(Qd Z)) Z<|oY Z (fun G U=>(Qc Z)) Z<|oY Z (fun G U=>(Qk Y1 Z)) Z<|oY Z (fun G U=>(Qi Z U uz35 Z Z)) Z<|oY Z (fun G U=>(QT Z Z uz35)) Z<|oL Z (fun Q_ hQ_ hP_=>(sc _ fz21 Z Qo Z Z (Q3 (Yd x.n _) fun w2 hb=>?_)))
  replace hcw:=hcw.then_below hb;replace hB:=hB.bel hb;replace hL:=hL.bel hb;replace hd:=hd.bel hb;have zz2:=hb.size;clear hb
  refine Wn<|hQ_ _ _ (hB) ?_
  clear hQ_ hP_ Q_;refine oL Z (fun Q_ hQ_ hP_=>(sc _ fz86 Z Qo Z Z (Q3 (YJ (x.l.length:Int) _ Qb Qb) fun w3 hb=>?_)));replace hcw:=hcw.then_below hb;replace hB:=hB.bel hb;replace hL:=hL.bel hb;replace hd:=hd.bel hb;have zz3:=hb.size;clear hb
  refine Wn<|hQ_ _ _ (hB) ?_
  clear hQ_ hP_ Q_;refine oL Z (fun Q_ hQ_ hP_=>(sc _ Tryz.func85 Z Qo Z Z (Q3 (H7 3 (JR (x.l.length:Int)) _ (by rw [Q9]; omega)) fun w4 hb=>?_)));replace hcw:=hcw.then_below hb;replace hB:=hB.bel hb;replace hL:=hL.bel hb;replace hd:=hd.bel hb;have zz4:=hb.size;clear hb
  refine Wn<|hQ_ _ _ (hB) ?_
  clear hQ_ hP_ Q_;have hB0lt:=hB.lt;have hz0:=hcw.size;refine oL Z (fun Q_ hQ_ hP_=>(sc _ fz84 Z Qo Z Z ((rdisk (Um gr D R _ hd.at_ (Qz x.n) (Zw x.l) hg.ok (hg.bud Qb) Qb) hd (Nat.le_trans hBw hcw.size) hcw (fun k hk=>.inl hk) hR1).mono ?_)));clear hd hcw hR1;rintro e_ w5 ⟨rfl,R1,hd,hR1,hX2,hcw,hz1_⟩;refine cR ?_;replace hB:=hB.chg hX2.2 hgs;replace hL:=hL.chg hX2.2 hu
  have hRgs:¬R1 gs:=fun e=>(hX2.1 _ e).elim hgs (fun e=>by have:=hB0lt; omega)
  have hRu:∀ k,(Value.slice p x.l.length cp).ownBlock=some k→¬R1 k:=fun k hk e=>(hX2.1 k e).elim (hu k hk) (fun e=>by have:=hul k hk; omega)
  have zz5:=hz1_;clear hX2
  refine Wn<|hQ_ _ _ (hB) ?_
  clear hQ_ hP_ Q_;refine oY Z (fun G U=>(Qy Z)) Z ?_
  obtain ⟨e1,D1,hap⟩:∃ e1 D1,QI D (Qz x.n) (Zw x.l)=(e1,D1):=⟨_,_,rfl⟩
  rw [hap] at hd hg1 ⊢;simp only at hd hg1 ⊢
  refine oN<|nN<|Qe<|Qa<|sm Z Z<|st (QC Z Z) Z<|Wn<|tN<|Qx Z (fun h26=>?_) (fun h26=>?_)
  ·replace h26:=Qs h26;rw [if_pos h26]
   refine Qa<|sm Z Z<|sa Z Z<|sa Z Z<|Wn<|tN<|Qg<|tR ?_
   exact (J6 Z Z Z ⟨_,Z,REnts.nil _,⟨_,R1,hB,hL,hd,hR1,fun k hk=>.inl hk,hRu,hcw⟩⟩).1
  ·replace h26:=Qs h26;rw [if_neg h26]
   refine Qf<|tN<|Qa<|sm Z Z<|sm Z Z<|st (Qc Z) Z<|st (Qk Qdn Z) Z<|st (Qi Z hB uz3 Z Z) Z<|sc _ fz21 Z Qo Z Z (Q3 (Yd x.n _) fun w6 hb=>?_)
   replace hcw:=hcw.then_below hb;replace hB:=hB.bel hb;replace hL:=hL.bel hb;replace hd:=hd.bel hb;have zz6:=hb.size;clear hb
   refine sc _ fz94 Z Qo Z Z<|(rdisk (Qgb gr D1 R1 _ hd.at_ (Qz x.n) hg1.ok (hg1.bud Qb)) hd (Nat.le_trans hBw hcw.size) hcw (fun k hk=>.inl hk) hR1).mono ?_
   clear hd;rintro e_ w7 ⟨rfl,R2,hd,hR1,hX2,hcw,hz2_⟩;refine cR ?_;replace hB:=hB.chg hX2.2 hRgs;replace hL:=hL.chg hX2.2 hRu
   have hRgs2:¬R2 gs:=fun e=>(hX2.1 _ e).elim hRgs (fun e=>by have:=hB0lt; omega)
   have hRu2:∀ k,(Value.slice p x.l.length cp).ownBlock=some k→¬R2 k:=fun k hk e=>(hX2.1 k e).elim (hRu k hk) (fun e=>by have:=hul k hk; omega)
   clear hX2
   refine Wn<|tN<|Qa<|sm Z Z<|st (Qc Z) Z<|st (Qk Qob Z) Z<|KL Z Z hB siz4 Z Q0 (fun w8 bB cC=>?_)
   replace hB:=bB;replace hL:=hL.chg cC (fun k hk e=>hne k hk e);replace hd:=hd.other cC (fun k hk e=>by have h1:k=gs:=hk; subst h1; exact hRgs2 e);replace hcw:=hcw.next cC (fun i hi=>.inl (.inr (.inl hi)));have zz8:=cC.size;clear bB cC
   refine Wn<|tN<|Qa<|sm Z Z<|st (Qc Z) Z<|st (Qk Y1 Z) Z<|st (Qi Z hB uz35 Z Z) Z<|sc _ fz43 Z Qo Z Z<|(Z2 _ x.l _ hL.reads Qb).mono ?_
   rintro e_ w9 ⟨u,rfl,hE,hb⟩;refine cR ?_;replace hcw:=hcw.then_below hb;replace hB:=hB.bel hb;replace hL:=hL.bel hb;replace hd:=hd.bel hb;have zz9:=hb.size;clear hb
   refine sa Z Z<|sa Z Z<|Wn<|tN<|Qg ?_
   exact (J6 Z Z Z ⟨u,Z,hE,⟨_,R2,hB,hL,hd,hR1,fun k hk=>.inl hk,hRu2,hcw⟩⟩).1
end
end
section
open Go.RowKit Sha
def Le (a:Key→Nat) (D:DiskD):Prop:=∀ j f,mget D.files j=some f→f.now.length≤a j
section
variable {D:DiskD} {a b:Key→Nat}
theorem Le.mono (h:Le a D) (hb:∀ j,a j≤b j):Le b D:=fun j f hf=>Nat.le_trans (h j f hf) (hb j)
theorem Le.sput (h:Le a D) (hs:Rising D.files) {k:Key} {f:FileD} {F:DiskD} (hF:F.files=sput D.files k f) (hf:f.now.length≤b k) (hb:∀ j,a j≤b j):Le b F:=fun j g hg=>by
 rw [hF,Zv hs] at hg
 split at hg
 ·rename_i e
  rw [e,← Option.some.inj hg];exact hf
 ·exact Nat.le_trans (h j g hg)<|hb j
theorem Qfo (h:Le a D) (hq:D.stops=false) (hs:Rising D.files) (k:Key):Le a (QV D k).2:=by
 unfold QV;rw [opQ hq]
 split
 ·split
  ·exact h
  ·exact h.sput hs Z (Nat.zero_le _) (fun _=>Nat.le_refl _)
 ·exact h
theorem XV (h:Le a D) (hq:D.stops=false) (hs:Rising D.files) (k:Key) (d:List UInt8) (hk:a k+d.length≤b k) (hb:∀ j,a j≤b j):Le b (QI D k d).2:=by
 unfold QI;rw [opQ hq]
 cases hm:mget D.files k with
 | none=>rw [Jd hm]; exact h.mono hb
 | some f =>
  rw [QW hm];unfold Xe
  split
  ·exact h.mono hb
  split
  ·exact fun j g hg=>Nat.le_trans (h j g hg) (hb j)
  ·refine h.sput hs (f:=Xw f f.now.length d) Z ?_ hb
   show (JH f.now f.now.length d).length≤_
   rw [Qfe,List.length_append]
   have:=h k f hm
   omega
theorem Qps (h:Le a D) (hq:D.stops=false) (hs:Rising D.files) (k:Key):Le a (Ku D k).2:=by
 unfold Ku;rw [opQ hq]
 cases hm:mget D.files k with
 | none=>rw [Jd hm]; exact h
 | some f=>rw [QW hm]; exact h.sput hs (f:=KY f) rfl (h k f hm) (fun _=>Nat.le_refl _)
theorem Qfn (h:Le a D) (hq:D.stops=false) (hs:Rising D.files) (k:Key):Le (fun j=>if j=k then 0 else a j) (Q7 D k).2:=fun j g hg=>by
 have h0:=Qab hq hs k;unfold Q7 at hg h0;rw [opQ hq] at hg h0
 cases hm:mget D.files k with
 | none =>
  rw [Jd hm] at hg
  have hj:j≠k:=fun e=>by rw [e,hm] at hg; cases hg
  simp only [if_neg hj];exact h j g hg
 | some f =>
  rw [QW hm] at hg;have hg2:mget (mdel D.files k) j=some g:=hg;rw [J0 hs.nodup] at hg2
  split at hg2
  ·cases hg2
  ·rename_i hj
   simp only [if_neg hj];exact h j g hg2
theorem Vo (h:Le a D) (hq:D.stops=false) (hs:Rising D.files) (k:Key):Le a (Q7 D k).2:=(Qfn h hq hs k).mono fun j=>by split <;> omega
theorem Qrz (h:Le a D) (hq:D.stops=false) (hs:Rising D.files) (x y:Key) (hxy:a x≤a y):Le a (Kx D x y).2:=by
 unfold Kx;rw [opQ hq]
 split
 ·cases hm:mget D.files x with
  | none=>rw [Jd hm]; exact h
  | some f =>
   rw [QW hm]
   split
   ·exact h
   ·intro j g hg;have hg2:mget (sput (mdel D.files x) y f) j=some g:=hg;rw [Zv (hs.del x)] at hg2
    split at hg2
    ·rename_i e
     rw [e,← Option.some.inj hg2];exact Nat.le_trans (h x f hm) hxy
    ·rw [J0 hs.nodup] at hg2
     split at hg2
     ·cases hg2
     ·exact h j g hg2
 ·exact h
theorem le_rot (h:Le a D) (hs:Rising D.files) (k:Key) (i:Int) (c:UInt8):Le a (rotM D k i c).2:=by
 unfold rotM
 cases hm:mget D.files k with
 | none=>rw [Jd hm]; exact h
 | some f =>
  rw [QW hm]
  split
  ·exact h
  ·refine h.sput hs (f:=⟨f.now.set i.toNat c,f.now.set i.toNat c,[]⟩) Z ?_ (fun _=>Nat.le_refl _);simp only [List.length_set];exact h k f hm
theorem crash_getI:∀ {m:List (Key×FileD)} {ks:List Int} {j:Key} {g:FileD},mget (crashAll m ks) j=some g→∃ f p,mget m j=some f∧g=ZQ f p
 | [],_,_,_,h=>by cases h
 | p::m,ks,j,g,h=>by
  obtain ⟨k,u⟩:=p;unfold crashAll mget at h
  by_cases hk:j=k
  ·rw [if_pos hk] at h;exact ⟨u,_,by unfold mget; rw [if_pos hk],(Option.some.inj h).symm⟩
  ·rw [if_neg hk] at h;obtain ⟨f,p,h1,h2⟩:=crash_getI h;exact ⟨f,p,by unfold mget; rw [if_neg hk]; exact h1,h2⟩
theorem Qvb (h:Le a D) (hok:DOk D) (ks:List Int):Le a (Ut D ks):=fun j g hg=>by
 obtain ⟨f,p,hf,rfl⟩:=crash_getI (show mget (crashAll D.files ks) j=some g from hg);have hF:=hok.fok j f hf
 refine Nat.le_trans ?_<|h j f hf
 show (crashBytes f.last f.pend p).length≤_
 rw [hF.now]
 exact crash_len _ _ _ _ hF.puts<|Nat.le_refl _
end
end
section
open Go.RowKit
theorem Qvq (a b:Ent):(a.sum == b.sum && (a.pack == b.pack && (a.pos == b.pos && a.len == b.len)))=decide (a=b):=by
 obtain ⟨a1,a2,a3,a4⟩:=a;obtain ⟨b1,b2,b3,b4⟩:=b;rw [Bool.eq_iff_iff]
 simp
theorem fieldsEntE:Tryz.prog.underlying 59=some (.struct (Tryz.prog.fieldsOf 59)):=by kernel_rfl
theorem eqEnt (a b:Ent) (ha:a.sum.length=32) (hb:b.sum.length=32) (w:World):(Op.equalIn 10000 59 (.agg a.cells.toArray) (.agg b.cells.toArray)).run Tryz.prog w=.ok (decide (a=b)) w:=by
 refine (run_equalIn_struct w 9999 _ _ _ fieldsEntE Qo).trans ?_;have hf:=Option.some.inj (fieldsEntE.symm.trans uz59);injection hf with hf;rw [hf]
 have h1:∀ c:Ent,c.sum.length=32→(part 57 c.cells.toArray 0).run Tryz.prog w=.ok (.agg (c.sum.map bv).toArray) w:=fun c hc=>by
  simp [part,isAgg,run_underlying uz57];exact List.take_left' (by rw [List.length_map,hc])
 have h2:∀ c:Ent,c.sum.length=32→(part 3 c.cells.toArray 32).run Tryz.prog w=.ok (.int .i64 c.pack) w:=fun c hc=>KU uz3 rfl (by simp [Ent.cells,hc])
 have h3:∀ c:Ent,c.sum.length=32→(part 3 c.cells.toArray 33).run Tryz.prog w=.ok (.int .i64 c.pos) w:=fun c hc=>KU uz3 rfl (by simp [Ent.cells,hc])
 have h4:∀ c:Ent,c.sum.length=32→(part 3 c.cells.toArray 34).run Tryz.prog w=.ok (.int .i64 c.len) w:=fun c hc=>KU uz3 rfl (by simp [Ent.cells,hc])
 have e2:(Op.equalIn 9999 3 (.int .i64 a.pack) (.int .i64 b.pack)).run Tryz.prog w=.ok (a.pack == b.pack) w:=run_equalIn_int w 9998 3 .i64 .i64 _ _ uz3;have e3:(Op.equalIn 9999 3 (.int .i64 a.pos) (.int .i64 b.pos)).run Tryz.prog w=.ok (a.pos == b.pos) w:=run_equalIn_int w 9998 3 .i64 .i64 _ _ uz3;have e4:(Op.equalIn 9999 3 (.int .i64 a.len) (.int .i64 b.len)).run Tryz.prog w=.ok (a.len == b.len) w:=run_equalIn_int w 9998 3 .i64 .i64 _ _ uz3;rw [← Qvq];exact Zk QF (h1 a ha) (h1 b hb) (eqSumE a.sum b.sum ha hb w) (fun _=>Zk QF (h2 a ha) (h2 b hb) e2 (fun _=>Zk QF (h3 a ha) (h3 b hb) e3 (fun _=>VW QF (h4 a ha) (h4 b hb) e4)))
theorem Qqi {l:Env} {x y:Operand} {w:World} {t' ty:TypeId} {a b:Ent} (ha:a.sum.length=32) (hb:b.sum.length=32) (hx:ev l x=some (.agg a.cells.toArray)) (hy:ev l y=some (.agg b.cells.toArray)):X Tryz.prog l (.binOp .eql 59 x y t') ty w (.bool (decide (a=b))) w :=
 JJ hx hy (fun c d=>run_eqGuard_agg w .eql _ c d _ _ Qo) (by rw [run_eql_struct,Go.Proofs.YtgiccohjijhfkaaGreatDoor.eqEnt a b ha hb]; simp [Result.andThen])
theorem Qvp {w:World} {g:Nat} {t:TypeId} {e:Ent} (hB:Blk w g t e.cells.toArray):w.rangeAt g 0 (e.sum.map bv):=fun j v hv=>by
 rw [hB.cell,Nat.zero_add,List.getElem?_toArray,Ent.cells,List.getElem?_append_left (List.getElem?_eq_some_iff.1 hv).1];exact hv
end
section
open Go.RowKit
def Consec:Nat→List (Nat×List UInt8)→Prop
  | _,[]=>True
  | n,p::l=>p.1=n∧Consec (n+p.2.length) l
def flatP:List (Nat×List UInt8)→List UInt8
  | []=>[]
  | p::l=>p.2++flatP l
theorem Qhi (l:List (Nat×List UInt8)):(flatP l).length=pendLen l:=by
 induction l with
 | nil=>rfl
 | cons p l ih=>simp only [flatP,pendLen,List.length_append,ih]
theorem Qhj (l m:List (Nat×List UInt8)):flatP (l++m)=flatP l++flatP m:=by
 induction l with
 | nil=>rfl
 | cons p l ih=>simp only [List.cons_append,flatP,ih,List.append_assoc]
theorem Consec.snoc:∀ {l:List (Nat×List UInt8)} {n:Nat} {d:List UInt8},Consec n l→Consec n (l++[(n+pendLen l,d)])
 | [],_,_,_=>⟨rfl,tvA⟩
 | p::l,n,d,h=>⟨h.1,by
  have:=Consec.snoc (d:=d) h.2
  rwa [show n+p.2.length+pendLen l=n+(p.2.length+pendLen l) by omega] at this⟩
structure LastsAt (D:DiskD) (k:Key) (lim:Int) (s all:List UInt8):Prop where
  ex:∃ f,D.files=[(k,f)]∧f.last=s∧f.now=s++all∧Consec s.length f.pend∧flatP f.pend=all
  limit:D.limit=lim
  used:D.used=(s++all).length
  stops:D.stops=false
section
variable {D:DiskD} {s all d:List UInt8} {k b:Key} {lim:Int}
theorem Qkg {ν:Type} (k:Key) (f:ν):mget [(k,f)] k=some f:=if_pos rfl
theorem Qtz (k:Key) (f g:FileD):sput [(k,f)] k g=[(k,g)]:=if_pos rfl
theorem LastsAt.op (h:LastsAt D k lim s all) (c:DiskD→Int×DiskD):opM D c=c D:=by
 unfold opM QH;rw [if_neg (by rw [h.stops]; simp),if_neg (by rw [h.stops]; simp)]
theorem LastsAt.append (h:LastsAt D k lim s all) (hl:((s++all).length:Int)+d.length≤lim):(QI D k d).1=0∧LastsAt (QI D k d).2 k lim s (all++d):=by
 obtain ⟨f,hf,h1,h2,h3,h4⟩:=h.ex;unfold QI;rw [h.op,QW (f:=f) (by rw [hf]; exact Qkg _ _)];unfold Xe
 split
 ·rename_i hd
  subst hd;rw [List.append_nil];exact ⟨Z,h⟩
 ·have hm:KC f f.now.length d=d.length:=by unfold KC; omega
  rw [if_neg (by rw [hm,h.limit,h.used]; omega)];refine ⟨Z,⟨⟨Xw f f.now.length d,by rw [hf]; exact Qtz _ _ _,h1,?_,?_,?_⟩,h.limit,?_,h.stops⟩⟩
  ·show JH f.now f.now.length d=_
   rw [Qfe,h2,List.append_assoc]
  ·show Consec s.length (f.pend++[(f.now.length,d)])
   have:=h3.snoc (d:=d)
   rw [← Qhi,h4] at this;rw [h2,List.length_append];exact this
  ·show flatP (f.pend++[(f.now.length,d)])=_
   rw [Qhj,h4];simp [flatP]
  ·show D.used+_=_
   rw [hm,h.used,← List.append_assoc];simp only [List.length_append]
   omega
theorem LastsAt.new (hk:Zj k=true):(QV (YC lim) k).1=0∧LastsAt (QV (YC lim) k).2 k lim [] []:=by
 have h:QV (YC lim) k=(0,⟨[(k,newFile)],lim,0,0,false,0⟩):=by
  unfold QV opM;rw [if_neg (by simp [YC])]
  show (if Zj k=true then _ else _)=_
  rw [if_pos hk]
  rfl
 rw [h];exact ⟨Z,⟨newFile,Z,Z,Z,trivial,Z⟩,Z,Z,Z⟩
end
end
section
open Go.RowKit Sha
def U7 (n:Int):Nat→List (List UInt8)→List Ent
  | _,[]=>[]
  | p,d::l=>⟨sha d,n,p,d.length⟩::U7 n (p+(ZI d).length) l
def Z8 (l:List (List UInt8)):List UInt8:=l.flatMap ZI
theorem Vd (n:Int):∀ (p:Nat) (l:List (List UInt8)),(U7 n p l).map (·.sum)=l.map sha
 | _,[]=>rfl
 | p,d::l=>by rw [U7,List.map_cons,Vd n _ l,List.map_cons]
theorem Qbu (n:Int) (d:List UInt8):∀ (p:Nat) (l:List (List UInt8)),U7 n p (l++[d])=U7 n p l++[⟨sha d,n,((p+(Z8 l).length:Nat):Int),d.length⟩]
 | p,[]=>by simp [U7,Z8]
 | p,c::l=>by
  rw [List.cons_append,U7,U7,Qbu n d _ l,List.cons_append];simp only [Z8,List.flatMap_cons,List.length_append];rw [Nat.add_assoc]
def DOkC (d:List UInt8):Prop:=d≠[]∧d.length≤1024
end
section
open Go.RowKit Sha
theorem Qie {lim:Int} {k:Key} (hk:Zj k=true):(QV (YC lim) k).1=0∧LastsAt (QV (YC lim) k).2 k lim [] []:=LastsAt.new hk
theorem Qak {lim n:Int} (hn:QU n=true) (hl:20≤lim):(Q2 (YC lim) n).1=0∧LastsAt (Q2 (YC lim) n).2 (Qz n) lim [] (JX n):=by
 obtain ⟨h1,h2⟩:=Qie (lim:=lim) (name_ok hn);have hh:=YN n;obtain ⟨h3,h4⟩:=h2.append (d:=JX n) (by simp; omega);unfold Q2;rw [if_neg (by rw [hn]; decide),if_neg (by rw [h1]; decide),if_neg (by rw [h3]; decide)];exact ⟨h3,by simpa using h4⟩
theorem LastsAt.sizeOf {D:DiskD} {k:Key} {lim:Int} {s all:List UInt8} (h:LastsAt D k lim s all):ZS D k=(((s++all).length:Int),0):=by
 obtain ⟨f,hf,h1,h2,h3,h4⟩:=h.ex;unfold ZS;rw [show mget D.files k=some f by rw [hf]; exact Qkg _ _];simp only;rw [h2]
structure WrAt1 (lim:Int) (n:Int) (ds:List (List UInt8)) (D:DiskD) (x:Wri):Prop where
  d:LastsAt D (Qz n) lim [] (JX n++Z8 ds)
  num:x.n=n
  l:x.l=U7 n (JX n).length ds
  closed:x.closed=false
  ok:∀ d∈ds,DOkC d
  nd:(ds.map sha).Nodup
theorem Qih (ds:List (List UInt8)) (d:List UInt8):Z8 (ds++[d])=Z8 ds++ZI d:=by simp [Z8]
theorem WrAt1.begin {lim n:Int} (hn:QU n=true) (hl:20≤lim):WrAt1 lim n [] (Q2 (YC lim) n).2 ⟨n,[],false⟩ :=
 ⟨by simpa [Z8] using (Qak hn hl).2,rfl,rfl,rfl,(fun d h=>by cases h),by simp⟩
section
variable {lim n:Int} {ds:List (List UInt8)} {D:DiskD} {x:Wri} {d:List UInt8}
theorem WrAt1.none (h:WrAt1 lim n ds D x) (hd:sha d∉ds.map sha):Zf x.l (sha d)=none:=by
 refine List.find?_eq_none.2 fun e he=>?_
 simp only [decide_eq_true_eq];intro e2;refine hd ?_;rw [← Vd n (JX n).length ds,← h.l];exact List.mem_map.2 ⟨e,he,e2⟩
theorem WrAt1.there (h:WrAt1 lim n ds D x) (hd:sha d∈ds.map sha) (hok:DOkC d):∃ e,Zf x.l (sha d)=some e∧e.sum=sha d∧QD D x d=((e,16),x,D):=by
 rw [← Vd n (JX n).length ds,← h.l] at hd;obtain ⟨e,he,hes⟩:=List.mem_map.1 hd
 cases hf:Zf x.l (sha d) with
 | none =>
  have:=List.find?_eq_none.1 hf e he
  simp [hes] at this
 | some e' =>
  have hs:=List.find?_some hf;simp only [decide_eq_true_eq] at hs;refine ⟨e',Z,hs,?_⟩;unfold QD;rw [if_neg (by rintro (e|e); rw [h.closed] at e; cases e; exact hok.1 e),if_neg (by have:=hok.2; omega),hf]
theorem WrAt1.add (h:WrAt1 lim n ds D x) (hd:sha d∉ds.map sha) (hok:DOkC d) (hr:((JX n++Z8 ds).length:Int)+1074≤lim) :
  (QD D x d).1=(⟨sha d,n,((JX n).length+(Z8 ds).length:Nat),d.length⟩,0)∧WrAt1 lim n (ds++[d]) (QD D x d).2.2 (QD D x d).2.1:=by
 have hcl:=Y4 d (by have:=hok.2; omega);have hd2:=hok.2;obtain ⟨h1,h2⟩:=h.d.append (d:=ZI d) (by simp only [List.nil_append]; omega);have hsz:=h.d.sizeOf;unfold QD;rw [if_neg (by rintro (e|e); rw [h.closed] at e; cases e; exact hok.1 e),if_neg Qb,h.none hd];simp only;rw [h.num,hsz,if_neg Q0,if_neg (by rw [h1]; simp)];refine ⟨?_,?_,Z,?_,h.closed,?_,?_⟩
 ·simp only [List.nil_append,List.length_append]
 ·rw [Qih,← List.append_assoc];exact h2
 ·simp only;rw [h.l,Qbu];simp only [List.nil_append,List.length_append]
 ·intro c hc
  rcases List.mem_append.1 hc with hc|hc
  ·exact h.ok c hc
  ·rw [List.mem_singleton.1 hc]; exact hok
 ·rw [List.map_append,List.nodup_append]
  exact ⟨h.nd,by simp,fun a ha b hb e=>by
   rw [List.map_singleton,List.mem_singleton] at hb;subst hb
   exact hd (e▸ha)⟩
end
theorem Quo (D:DiskD) (x:Wri) (d:List UInt8):(QD D x d).2.1.n=x.n∧((QD D x d).1.2=0→(QD D x d).2.1.l=x.l++[(QD D x d).1.1]∧(QD D x d).1.1.sum=sha d∧(QD D x d).1.1.pack=x.n∧(QD D x d).1.1.len=d.length)∧((QD D x d).1.2≠0→(QD D x d).2.1=x):=by
 unfold QD
 split
 ·exact ⟨Z,fun h=>absurd h Q0,fun _=>rfl⟩
 split
 ·exact ⟨Z,fun h=>absurd h Q0,fun _=>rfl⟩
 split
 ·exact ⟨Z,fun h=>absurd h Q0,fun _=>rfl⟩
 split
 ·rename_i h4
  exact ⟨Z,fun h=>absurd h h4,fun _=>rfl⟩
 split
 ·rename_i h5
  exact ⟨Z,fun h=>absurd h h5,fun _=>rfl⟩
 ·exact ⟨Z,fun _=>⟨Z,Z,Z,Z⟩,fun h=>absurd Z h⟩
end
end Go.Proofs.YtgiccohjijhfkaaGreatDoor
