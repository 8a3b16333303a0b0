/- Part 13. -/
import Derived.Test.YtgiccohjijhfkaaGreatDoorPackPlaysP12
set_option maxRecDepth 100000
set_option maxHeartbeats 4000000
namespace Go.Proofs.YtgiccohjijhfkaaGreatDoor
section
open Go.RowKit Sha
theorem pzer_eq (n:Nat):(madeCells (Value.int IntKind.u8 0).cells (n*1)).toList=(List.replicate n (0:UInt8)).map bv:=by
 rw [Nat.mul_one]
 apply List.ext_getElem
 ·simp [madeCells]
 ·intro i h1 h2;have e:(Value.int IntKind.u8 0).cells=#[Value.int IntKind.u8 0]:=rfl;simp [madeCells,e,Nat.mod_one,bv]
def EOk (l:List Ent):Prop:=∀ e∈l,0≤e.pos∧e.pos≤16777216∧1≤e.len∧e.len≤1024
theorem Qqy {n:Int} {s:List UInt8} {x y:Scn} (h:Zo n s x=some y) (hs:s.length≤16777216) (hg:x.good≤s.length) (hx:EOk x.l):EOk y.l:=by
 unfold Zo at h
 split at h
 ·cases h
 split at h
 ·cases h
 unfold Yg at h
 split at h
 ·split at h
  ·rename_i h5
   have h6:=HK h5.1;injection h with h; subst h;intro e he
   rcases List.mem_append.1 he with he|he
   ·exact hx e he
   ·rw [List.mem_singleton.1 he];simp only [entP]
    omega
  ·cases h
 split at h
 ·split at h
  ·injection h with h; subst h;exact hx
  ·cases h
 ·cases h
theorem Qcd {n:Int} {s:List UInt8} (hs:s.length≤16777216):∀ (k:Nat) {x:Scn},SOk s n x→EOk x.l→EOk (ZF n s k x).l
 | 0,_,_,hx=>hx
 | k+1,x,ho,hx=>by
  rw [ZF]
  cases h:Zo n s x with
  | none=>exact hx
  | some y=>exact Qcd hs k (VE h ho) (Qqy h hs ho.g hx)
theorem Qrd {s:List UInt8} (hs:s.length≤16777216) (n:Int):EOk (Zp s n).1.l:=by
 unfold Zp
 split
 ·intro e he; cases he
 split
 ·intro e he; cases he
 ·rename_i h1 h2
  exact Qcd hs _ (SOk.start (by simpa using h2)) (fun e he=>by cases he)
section
variable {B gd gp gx gm:Nat} {w:World} {D:DiskD} {n:Int} {x:Scn} {v:Value} {S:Nat→Prop}
theorem Qcz (h:PakAt w gd gp gx gm v n x) (hl:x.l.length≤1000000) :
  Calls Tryz.prog 52 #[.pointer (some ⟨gp,0,none⟩)] w fun e w'=>∃ u,e=.returned (.agg #[u])∧EntsAt w' u (Jb x.l).1∧(∀ k,u.ownBlock=some k→w.heap.size≤k)∧Below w.heap.size w w':=by
 have hB:Blk w gp 169 #[.pointer (some ⟨gd,0,none⟩),.int .i64 n,.pointer (some ⟨gx,0,none⟩)]:=h.blk;have hSn:=h.scn;have h32:=hSn.s32
 refine Qj (args:=[.pointer (some ⟨gp,0,none⟩)]) 11 fz52 Z Z Z<|Qt [(0,.pointer (some ⟨gp,0,none⟩))] ?_ ⟨Z,tvA⟩
 have bw:=Below.refl w.heap.size w
 refine Qa<|Jm inf101 Z (fun g2 w1 hB2 hg2 hb hl2=>?_)
 replace bw:=Ql bw hb;replace hB:=hB.bel hb;replace hSn:=hSn.bel hb;have zz1:=hb.size;clear hb
 refine Wn<|tN<|Qe<|Qa<|sm Z Z<|st (Qfy Z) Z<|Wn<|tN<|QX Z (Z)<|Qf<|tN<|Qa<|sm Z Z<|st (Qc Z) Z<|st (Qk VU Z) Z<|st (Qi Z hB uz75 Z Z) Z<|sc _ Tryz.func90 Z Qo Z Z<|(HY gx gm v _ _ hSn hl).mono ?_
 rintro e_ w2 ⟨u,rfl,hE,hO,hb⟩;refine cR ?_;replace bw:=Ql bw hb;replace hB:=hB.bel hb;replace hSn:=hSn.bel hb;replace hB2:=hB2.bel hb;have zz2:=hb.size;clear hb
 obtain ⟨am,cm,rfl⟩:∃ am cm,u=.slice am (Jb x.l).1.length cm:=by obtain ⟨_,am,cm,e,_⟩:=hE; exact ⟨am,cm,e⟩
 refine QY Z Z hB2 siz101 Z (by simp [Value.oneCell']) (fun w3 bB cC=>?_);replace hE:=EntsAt.chgI hE (Q5 h32) hB2 cC;replace bw:=Ji bw cC Qb;replace hB2:=bB;clear bB cC hB hSn
 refine Wn<|tN<|Qg ?_
 exact (rC Z Z hB2 uz101 Z siz101 ⟨_,Z,hE,fun k hk=>by have:=hO k hk; omega,bw⟩).1
theorem Qnn (w:World):Calls Tryz.prog 52 #[.pointer none] w fun e w'=>e=.returned (.agg #[.slice none 0 0])∧Below w.heap.size w w':=by
 refine Qj (args:=[.pointer none]) 11 fz52 Z Z Z<|Qt [(0,.pointer none)] ?_ ⟨Z,tvA⟩
 have bw:=Below.refl w.heap.size w
 refine Qa<|Jm inf101 Z (fun g2 w1 hB2 hg2 hb hl2=>?_)
 replace bw:=Ql bw hb;have zz1:=hb.size;clear hb
 refine Wn<|tN<|Qe<|Qa<|sm Z Z<|st (Qfy Z) Z<|Wn<|tN<|QO Z (Z)<|Qa<|st (Ja Z (Y6 _)) Z<|QY Z Z hB2 siz101 Z Z (fun w2 bB cC=>?_)
 replace hB2:=bB;clear bB;replace bw:=Ji bw cC Qb;have zz2:=cC.size;clear cC
 refine Wn<|tN<|Qg<|tR ?_
 exact (rC Z Z hB2 uz101 Z siz101 ⟨Z,bw⟩).1
theorem Qnm (h:PakAt w gd gp gx gm v n x) :
  Calls Tryz.prog 53 #[.pointer (some ⟨gp,0,none⟩)] w fun e w'=>e=.returned (.bool x.whole)∧Below w.heap.size w w':=by
 have hB:Blk w gp 169 #[.pointer (some ⟨gd,0,none⟩),.int .i64 n,.pointer (some ⟨gx,0,none⟩)]:=h.blk;have hX:Blk w gx 79 #[v,.map (some gm),.int .i64 x.good,.bool x.whole]:=h.scn.blk
 refine Qj (args:=[.pointer (some ⟨gp,0,none⟩)]) 14 Tryz.func53 Z Z Z<|Qt [(0,.pointer (some ⟨gp,0,none⟩))] ?_ ⟨Z,tvA⟩
 have bw:=Below.refl w.heap.size w
 refine Qa<|sa Z Z<|Wn<|tN<|Qa<|sm Z Z<|st (Qqf Z) Z<|UP Z (Z) Z<|gY Z Z Z<|sm Z Z<|gY Z Z Z<|st (Qc Z) Z<|gY Z Z Z<|st (Qk VU Z) Z<|gY Z Z Z<|st (Qi Z hB uz75 Z Z) Z<|gY Z Z Z<|st (Qc Z) Z<|gY Z Z Z<|st (Qk Qnw Z) Z<|gY Z Z Z<|st (Qi Z hX uz4 Z Z) Z<|st (Qm Z Z) Z<|sa Z Z<|Wn<|tN<|Qg ?_
 exact (rT Z Z ⟨Z,bw⟩).1
theorem Qnl (w:World):Calls Tryz.prog 53 #[.pointer none] w fun e w'=>e=.returned (.bool false)∧Below w.heap.size w w':=by
 refine Qj (args:=[.pointer none]) 14 Tryz.func53 Z Z Z<|Qt [(0,.pointer none)] ?_ ⟨Z,tvA⟩
 have bw:=Below.refl w.heap.size w
 refine Qa<|sa Z Z<|Wn<|tN<|Qa<|sm Z Z<|st (Qqf Z) Z<|sbN Z (Z) Z<|gN Z Z Z Z<|gN Z Z Z Z<|gN Z Z Z Z<|gN Z Z Z Z<|gN Z Z Z Z<|gN Z Z Z Z<|gN Z Z Z Z<|st (Qq Z Z) Z<|sa Z Z<|Wn<|tN<|Qg ?_
 exact (rT Z Z ⟨Z,bw⟩).1
theorem Qsc (h:PakAt w gd gp gx gm v n x) :
  Calls Tryz.prog 54 #[.pointer (some ⟨gp,0,none⟩)] w fun e w'=>e=.returned (.int .i64 x.good)∧Below w.heap.size w w':=by
 have hB:Blk w gp 169 #[.pointer (some ⟨gd,0,none⟩),.int .i64 n,.pointer (some ⟨gx,0,none⟩)]:=h.blk;have hX:Blk w gx 79 #[v,.map (some gm),.int .i64 x.good,.bool x.whole]:=h.scn.blk
 refine Qj (args:=[.pointer (some ⟨gp,0,none⟩)]) 12 Tryz.func54 Z Z Z<|Qt [(0,.pointer (some ⟨gp,0,none⟩))] ?_ ⟨Z,tvA⟩
 have bw:=Below.refl w.heap.size w
 refine Qa<|sa Z Z<|Wn<|tN<|Qe<|Qa<|sm Z Z<|st (Qfy Z) Z<|Wn<|tN<|QX Z (Z)<|Qf<|tN<|Qa<|sm Z Z<|st (Qc Z) Z<|st (Qk VU Z) Z<|st (Qi Z hB uz75 Z Z) Z<|st (Qc Z) Z<|st (Qk H3 Z) Z<|st (Qi Z hX uz3 Z Z) Z<|sa Z Z<|Wn<|tN<|Qg ?_
 exact (rT Z Z ⟨Z,bw⟩).1
theorem Qsb (w:World):Calls Tryz.prog 54 #[.pointer none] w fun e w'=>e=.returned (.int .i64 0)∧Below w.heap.size w w':=by
 refine Qj (args:=[.pointer none]) 12 Tryz.func54 Z Z Z<|Qt [(0,.pointer none)] ?_ ⟨Z,tvA⟩
 have bw:=Below.refl w.heap.size w
 refine Qa<|sa Z Z<|Wn<|tN<|Qe<|Qa<|sm Z Z<|st (Qfy Z) Z<|Wn<|tN<|QO Z (Z)<|Qa<|sa Z Z<|Wn<|tN<|Qg<|tR ?_
 exact (rT Z Z ⟨Z,bw⟩).1
def Qfa (e:Ent) (a:List UInt8) (r:List UInt8×Int):List UInt8×Int:=if r.2=1 then ([],35) else if r.2≠0 then ([],r.2) else gotM e.len a r.1
theorem Qez {l:List Ent} {a:List UInt8} (h:Zf l a=none):Yw D n l a=([],15):=by unfold Yw; rw [h]
theorem Qmr {k:Key} {f:FileD} (h:mget D.files k=some f) {p q:Int} (hp:0≤p) (hq:0≤q):Kd D k p q=if (f.now.length:Int)<p then ([],1) else ((f.now.drop p.toNat).take q.toNat,0):=by
 unfold Kd;rw [h]
 show (if _ then _ else _)=_
 by_cases hl:(f.now.length:Int)<p
 ·rw [if_pos hl,if_pos Qb]
 ·rw [if_neg hl,if_neg Qb]
theorem Qcf {k:Key} (h:mget D.files k=none) (p q:Int):Kd D k p q=([],15):=by
 unfold Kd;rw [h]
theorem Qrj (hok:DOk D) (k:Key) (p q:Int):(Kd D k p q).1.length≤16777216:=by
 unfold Kd
 cases hm:mget D.files k with
 | none=>simp
 | some f =>
  have:=(hok.len hm).1
  show (if _ then _ else _:List UInt8×Int).1.length≤_
  split
  ·simp
  ·simp only [List.length_take,List.length_drop]
   omega
theorem Qrn {l:List Ent} {a:List UInt8} {e:Ent} (h:Zf l a=some e) (hp:0≤e.pos):Yw D n l a=Qfa e a (Kd D (Qz n) e.pos (Xv e.len.toNat)):=by
 unfold Yw Qfa;rw [h]
 cases hm:mget D.files (Qz n) with
 | none =>
  rw [Qcf hm]
  rfl
 | some f =>
  rw [Qmr hm hp Qb];simp only
  by_cases hl:(f.now.length:Int)<e.pos
  ·rw [if_pos hl,if_pos hl]
   rfl
  ·rw [if_neg hl,if_neg hl]
   rfl
theorem Qun (a:List UInt8) (h:PakAt w gd gp gx gm v n x) (hd:DiskAt w gd D S) (hok:DOk D) (hT:PTabs B w) (ha:a.length=32) (he:EOk x.l) :
  Calls Tryz.prog 55 #[.pointer (some ⟨gp,0,none⟩),.agg (a.map bv).toArray] w fun e w'=>e=.returned (.tuple #[Qv (Yw D n x.l a).1,.int .i64 (Yw D n x.l a).2])∧Below w.heap.size w w':=by
 have hB:Blk w gp 169 #[.pointer (some ⟨gd,0,none⟩),.int .i64 n,.pointer (some ⟨gx,0,none⟩)]:=h.blk;have hSn:=h.scn;have h32:=hSn.s32;obtain ⟨m,hM,hm⟩:=hSn.map;have hRow:Row w 59 35 v x.l.length (x.l.flatMap Ent.cells):=hSn.row;obtain ⟨q,cq,rfl,hq1,hq2⟩:=hRow.shape;clear hRow h
 refine Qj (args:=[.pointer (some ⟨gp,0,none⟩),.agg (a.map bv).toArray]) 108 Tryz.func55 Z Z Z<|Qt [(0,.pointer (some ⟨gp,0,none⟩)),(1,.agg (a.map bv).toArray)] ?_ ⟨Z,Z,tvA⟩
 have bw:=Below.refl w.heap.size w
 refine Qa<|J1 Z Z (fun g3 w1 hB3 hg3 hb hl3=>?_)
 replace bw:=Ql bw hb;have zz1:=hb.size;clear hb
 refine sa Z Z<|sa Z Z<|Wn<|tN<|Qe<|Qa<|sm Z Z<|st (Qfy Z) Z<|Wn<|tN<|QX Z (Z)<|Qf<|tN ?_
 have hBp:=hB.bel bw;have hXp:Blk _ gx 79 #[.slice q x.l.length cq,.map (some gm),.int .i64 x.good,.bool x.whole]:=(hSn.bel bw).blk;have h3p:=hB3;refine QS (fun G=>Below w1.heap.size w1 G) [0,1,2,3,4,5,6,7,8,9,10,11,12,13] [Y,Y,Y,Y,Y,Y,Y,Y,false,Y,Y,Y,Y,Y] Qo Qo (JC X4) ?_;obtain ⟨w2,hw_,hb⟩:=QN w1;rw [← hw_];clear hw_;have hS:=hb;replace bw:=Ql bw hb;replace hB3:=hB3.bel hb;have zz2:=hb.size;clear hb
 refine oY Z (fun G U=>(Qd Z)) Z<|oY Z (fun G U=>(Qc Z)) Z<|oY Z (fun G U=>(Qk VU Z)) Z<|oY Z (fun G U=>(Qi Z (hBp.bel U) uz75 Z Z)) Z<|oY Z (fun G U=>(Qc Z)) Z<|oY Z (fun G U=>(Qk Qhn Z)) Z<|oY Z (fun G U=>(Qi Z (hXp.bel U) uz76 Z Z)) Z<|oY Z (fun G U=>(QE Z (h3p.bel U) uz57 Z (by rw [Jn ha]; exact siz57))) Z ?_
 refine oL Z (fun Q_ hQ_ hP_=>(st (Qdz (z:=.int .i64 0) keySum Z ⟨a,ha⟩ Z uz76 Qo (hM.bel bw)) Z (Wn (hQ_ _ _ hS ?_))));clear hQ_ hP_ Q_
 refine oY Z (fun G U=>(Qd Z)) Z<|oY Z (fun G U=>(Qu Z Z)) Z<|oY Z (fun G U=>(Qu Z Z)) Z<|oY Z (fun G U=>(Qy Z)) Z<|oY Z (fun G U=>(Qy Z)) Z ?_
 clear hBp hXp h3p
 refine oN<|nN<|Qe<|Qa<|sm Z Z<|st (Jk Z) Z<|Wn<|tN<|Qx Z (fun h33=>?_) (fun h33=>?_)
 ·replace h33:=Qs h33
  refine Qa<|sa Z Z<|sa Z Z<|Wn<|tN<|Qg<|tR ?_
  have hgn:mget m (⟨a,ha⟩:Sum32)=none:=by cases hg:mget m (⟨a,ha⟩:Sum32) with|none=>rfl|some z=>rw [hg] at h33; simp at h33
  have hfn:Zf x.l a=none:=(Qkt hm hgn).1;exact (J6 Z Z Z ⟨by rw [Qez hfn]; rfl,bw⟩).1
 ·replace h33:=Qs h33
  obtain ⟨i,hgi⟩:∃ i,mget m (⟨a,ha⟩:Sum32)=some i:=by cases hg:mget m (⟨a,ha⟩:Sum32) with|none=>rw [hg] at h33; simp at h33|some z=>exact ⟨z,rfl⟩
  obtain ⟨j,en,rfl,hj,hes,hfi⟩:=Qpt hm hM.nodup hgi;have hfi:Zf x.l a=some en:=hfi;have hen:en.sum.length=32:=h32 en (List.mem_of_getElem? hj);obtain ⟨hp0,hp1,hn0,hn1⟩:=he en (List.mem_of_getElem? hj);have hjl:j<x.l.length:=(List.getElem?_eq_some_iff.1 hj).1;rw [hgi,Qrn hfi hp0]
  obtain ⟨ln,hln⟩:∃ ln:Nat,en.len=ln:=⟨en.len.toNat,by omega⟩
  have hRr:=hSn.row.reads;obtain ⟨g1,o1,c',hvv,hg1⟩:=hRr.some_ (by show 0<x.l.length; omega);injection hvv with e1 _ e3;subst e1 e3;have hRg:=EntsAt.range (l:=x.l) (hRr.bel bw) h32 hj;clear hRr
  refine Qf<|tN<|Qa<|sm Z Z<|st (Qc Z) Z<|st (Qk VU Z) Z<|st (Qi Z (hB.bel bw) uz75 Z Z) Z<|st (Qc Z) Z<|st (Qk XB Z) Z<|st (Qi Z (hSn.bel bw).blk uz77 Z Z) Z<|sm Z Z<|st (QA Z Z uz77 siz59 Z hjl) Z<|st (Jw (cs:=en.cells) Z uz59 Z (by rw [Ent.cells_length hen]; exact siz59) hRg) Z ?_
  refine Jm inf59 Z (fun g8 w3 hB8 hg8 hb hl8=>?_);replace bw:=Ql bw hb;replace hB3:=hB3.bel hb;have zz3:=hb.size;clear hb;refine QY Z Z hB8 (by rw [Ent.size hen]; exact siz59) (by rw [Ent.size hen]; rfl) (Ent.cells_one en) (fun w4 bB cC=>?_);replace hB8:=bB;replace hB3:=hB3.chg cC (by show ¬g3=g8; omega);replace bw:=Ji bw cC Qb;have zz4:=cC.size;clear bB cC
  refine Wn<|tN<|Qa<|st (Qk Vv Z) Z<|st (Z0 Z hB8 uz3 Z (Ent.cell_ hen 2 _ Z)) Z ?_
  rw [hln]
  refine st (Qn Z Z Qb) Z<|smk (q:=32+ln) Z Z (show 32+(ln:Int)=((32+ln:Nat):Int) by omega) (show 32+(ln:Int)=((32+ln:Nat):Int) by omega) uz114 inf5 Qb (by simp only [maxLen]; omega) Z (fun g47 w5 hR47 hg47 hb=>?_)
  replace hB3:=hB3.bel hb;replace hB8:=hB8.bel hb;replace bw:=Ql bw hb;have zz5:=hb.size;rw [pzer_eq] at hR47;clear hb
  refine st (Zs (s:=List.replicate (32+ln) 0) Z uz114 uz5 uz9 hR47.reads) Z<|sc _ fz27 Z Qo Z Z (Q3 (Hc 2 (List.replicate (32+ln) 0) _ (by rw [List.length_replicate]; omega)) fun w6 hb=>?_)
  replace bw:=Ql bw hb;replace hB3:=hB3.bel hb;replace hB8:=hB8.bel hb;have zz6:=hb.size;clear hb
  refine st (QP Z Z uz9) Z<|sa Z Z<|Wn<|tN ?_
  have hBp:=hB.bel bw;have h8p:=hB8;refine QS (fun G=>Below w6.heap.size w6 G) [0,1,2,3,4,5,6,7,9,10,11,8,12,13,14,15,16,17] [Y,Y,Y,Y,Y,Y,Y,Y,Y,Y,Y,false,false,Y,Y,Y,Y,Y] Qo Qo (JC X4) ?_;obtain ⟨w7,hw_,hb⟩:=QN w6;rw [← hw_];clear hw_;have hS:=hb;replace bw:=Ql bw hb;replace hB3:=hB3.bel hb;replace hB8:=hB8.bel hb;have zz7:=hb.size;clear hb
  refine oY Z (fun G U=>(Qd Z)) Z<|oY Z (fun G U=>(Qc Z)) Z<|oY Z (fun G U=>(Qk fa169_0 Z)) Z<|oY Z (fun G U=>(Qi Z (hBp.bel U) uz23 Z Z)) Z<|oY Z (fun G U=>(Qd Z)) Z<|oY Z (fun G U=>(Qc Z)) Z<|oY Z (fun G U=>(Qk fa169_1 Z)) Z<|oY Z (fun G U=>(Qi Z (hBp.bel U) uz3 Z Z)) Z<|oY Z (fun G U=>(Qk H4 Z)) Z<|oY Z (fun G U=>(Z0 Z (h8p.bel U) uz3 Z (Ent.cell_ hen 1 _ Z))) Z<|oY Z (fun G U=>(Qd Z)) Z<|oL Z (fun Q_ hQ_ hP_=>(sc _ fz13 Z Qo Z Z (Q3 (Ua n _ (hT.bel bw).pow) fun w8 hb=>?_)))
  replace hS:=Ql hS hb;replace bw:=Ql bw hb;replace hB3:=hB3.bel hb;replace hB8:=hB8.bel hb;have zz8:=hb.size;clear hb
  refine Wn<|hQ_ _ _ hS ?_
  clear hQ_ hP_ Q_;refine oL Z (fun Q_ hQ_ hP_=>(sc _ Tryz.func102 Z Qo Z Z (Q3 (Qlv gd D S (Qz n) en.pos (Xv ln) _ (hd.bel bw) hok) fun w9 hb=>?_)));replace hS:=Ql hS hb;replace bw:=Ql bw hb;replace hB3:=hB3.bel hb;replace hB8:=hB8.bel hb;have zz9:=hb.size;clear hb
  refine Wn<|hQ_ _ _ hS ?_
  clear hQ_ hP_ Q_
  refine oY Z (fun G U=>(Qd Z)) Z<|oY Z (fun G U=>(Qu Z Z)) Z<|oY Z (fun G U=>(Qu Z Z)) Z<|oY Z (fun G U=>(Qy Z)) Z<|oY Z (fun G U=>(Qy Z)) Z<|oN<|nN<|Qe<|Qp<|Qa ?_
  rw [Int.toNat_natCast];have hrl:=Qrj hok (Qz n) en.pos (Xv ln)
  obtain ⟨r,hr⟩:∃ r,Kd D (Qz n) en.pos (Xv ln)=r:=⟨_,rfl⟩
  rw [hr] at hrl ⊢
  refine sm Z Z<|st (QL Z Z) Z<|sa Z Z<|Wn<|tN<|Qx Z (fun h67=>?_) (fun h67=>?_)
  ·replace h67:=Qs h67
   refine Qa<|sa Z Z<|sa Z Z<|Wn<|tN<|Qg<|bR<|tR ?_
   exact (J6 Z Z Z ⟨by unfold Qfa; rw [if_pos h67]; rfl,bw⟩).1
  ·replace h67:=Qs h67
   refine Qa<|sm Z Z<|st (QC Z Z) Z<|sa Z Z<|Wn<|tN<|Qx Z (fun h70=>?_) (fun h70=>?_)
   ·replace h70:=Qs h70
    refine Qa<|sm Z Z<|sa Z Z<|sa Z Z<|Wn<|tN<|Qg<|bR<|tR ?_
    exact (J6 Z Z Z ⟨by unfold Qfa; rw [if_neg h67,if_pos h70]; rfl,bw⟩).1
   ·replace h70:=Qs h70
    have hpg:Qfa en a r=gotM en.len a r.1:=by unfold Qfa; rw [if_neg h67,if_neg h70]
    rw [hpg];have hbl:=UV r.1
    refine Qf<|bN<|tN<|Qa<|sm Z Z<|sc _ Tryz.func103 Z Qo Z Z (Q3 (Qly r.1 _ Qb) fun w10 hb=>?_)
    replace bw:=Ql bw hb;replace hB3:=hB3.bel hb;replace hB8:=hB8.bel hb;have zz10:=hb.size;clear hb
    refine sm Z Z<|st (Qu Z Z) Z<|st (Qu Z Z) Z<|st (Qu Z Z) Z<|st (Qu Z Z) Z<|sa Z Z<|sa Z Z<|sa Z Z<|sa Z Z<|Wn<|tN<|Qe<|Qa<|sm Z Z<|st (QC Z Z) Z<|sb Z Z (fun h83=>?_) (fun h83=>?_)
    ·replace h83:=Qs h83
     refine gN Z Z Z Z<|gN Z Z Z Z<|st (Qm Z Z) Z<|Wn<|tN<|QO Z (Z)<|Qa<|sa Z Z<|sa Z Z<|Wn<|tN<|Qg<|tR ?_
     exact (J6 Z Z Z ⟨by unfold gotM; rw [if_pos (.inl h83)]; rfl,bw⟩).1
    ·replace h83:=Qs h83
     refine gY Z Z Z<|sm Z Z<|gY Z Z Z<|st (QC Z Z) Z<|st (Qq Z Z) Z<|Wn<|tN<|Qx Z (fun h86=>?_) (fun h86=>?_)
     ·replace h86:=Qs h86
      have hk:(QG r.1).1≠2:=fun e=>by rw [e] at h86; exact h86 rfl
      refine Qa<|sa Z Z<|sa Z Z<|Wn<|tN<|Qg<|tR ?_
      exact (J6 Z Z Z ⟨by unfold gotM; rw [if_pos (.inr hk)]; rfl,bw⟩).1
     ·replace h86:=Qs h86
      have hk:¬((QG r.1).2.2.2≠0∨(QG r.1).1≠2):=by rintro (e|e); exact h83 e; exact e (UInt8.toNat.inj (by show (QG r.1).1.toNat=2; omega))
      refine Qf<|tN<|Qa<|sm Z Z<|sc _ Tryz.func104 Z Qo Z Z<|(Qcl (QG r.1).2.1 _ (hT.bel bw).sha Qb).mono ?_
      rintro e_ w11 ⟨a2,d2,ok,rfl,ha2,hok2,hal2,hb⟩;refine cR ?_;replace bw:=Ql bw hb;replace hB3:=hB3.bel hb;replace hB8:=hB8.bel hb;have zz11:=hb.size;clear hb
      refine sm Z Z<|st (Qu Z Z) Z<|st (Qu Z Z) Z<|st (Qu Z Z) Z<|Jm inf57 Z (fun g15 w12 hB15 hg15 hb hl15=>?_)
      replace bw:=Ql bw hb;replace hB3:=hB3.bel hb;replace hB8:=hB8.bel hb;have zz12:=hb.size;clear hb;refine QY Z Z hB15 (by rw [Jn ha2]; exact siz57) (by rw [Jn ha2]; rfl) (Vf _) (fun w13 bB cC=>?_);replace hB15:=bB;replace hB8:=hB8.chg cC (by show ¬g8=g15; omega);replace hB3:=hB3.chg cC (by show ¬g3=g15; omega);replace bw:=Ji bw cC Qb;clear bB cC
      refine sa Z Z<|sa Z Z<|Wn<|tN<|Qe<|Qa<|sm Z Z<|st (Jk Z) Z<|sb Z Z (fun h95=>?_) (fun h95=>?_)
      ·replace h95:=Qs h95
       refine gN Z Z Z Z<|gN Z Z Z Z<|gN Z Z Z Z<|st (Qm Z Z) Z<|sm Z Z<|gN Z Z Z Z<|gN Z Z Z Z<|gN Z Z Z Z<|gN Z Z Z Z<|gN Z Z Z Z<|st (Qm Z Z) Z<|Wn<|tN<|QO Z (Z)<|Qa<|sa Z Z<|sa Z Z<|Wn<|tN<|Qg<|tR ?_
       exact (J6 Z Z Z ⟨by unfold gotM; rw [if_neg hk,if_neg (by rw [← hok2,h95]; simp)]; rfl,bw⟩).1
      ·replace h95:=Qs h95;obtain ⟨e1,e2⟩:=hal2 h95;subst e1 e2
       refine gY Z Z Z<|st (QE Z hB15 uz57 Z (by rw [Jn ha2]; exact siz57)) Z ?_
       refine gY Z Z Z<|st (QE Z hB3 uz57 Z (by rw [Jn ha]; exact siz57)) Z ?_
       refine gY Z Z Z<|st (Qwg ha2 ha Z Z) Z<|st (Qq Z Z) Z<|sb Z Z (fun h100=>?_) (fun h100=>?_)
       ·replace h100:=Qs h100
        refine gN Z Z Z Z<|gN Z Z Z Z<|gN Z Z Z Z<|gN Z Z Z Z<|gN Z Z Z Z<|st (Qm Z Z) Z<|Wn<|tN<|QO Z (Z)<|Qa<|sa Z Z<|sa Z Z<|Wn<|tN<|Qg<|tR ?_
        exact (J6 rfl rfl rfl ⟨by unfold gotM; rw [if_neg hk,if_neg (by rintro ⟨_,e,_⟩; rw [e] at h100; simp at h100)]; rfl,bw⟩).1
       ·replace h100:=Qs h100
        refine gY Z Z Z<|sm Z Z<|gY Z Z Z<|st (QP Z Z uz9) Z<|gY Z Z Z<|st (Qk Vv Z) Z<|gY Z Z Z<|st (Z0 Z hB8 uz3 Z (Ent.cell_ hen 2 _ Z)) Z<|gY Z Z Z<|st (QC Z Z) Z<|st (Qq Z Z) Z<|Wn<|tN<|Qx Z (fun h106=>?_) (fun h106=>?_)
        ·replace h106:=Qs h106
         refine Qa<|sa Z Z<|sa Z Z<|Wn<|tN<|Qg<|tR ?_
         exact (J6 rfl rfl rfl ⟨by unfold gotM; rw [if_neg hk,if_neg (by rintro ⟨_,_,e⟩; rw [List.length_drop] at h106; omega)]; rfl,bw⟩).1
        ·replace h106:=Qs h106
         refine Qf<|tN<|Qa<|sm Z Z<|sa Z Z<|sa Z Z<|Wn<|tN<|Qg ?_
         exact (J6 Z Z Z ⟨by unfold gotM; rw [if_neg hk,if_pos ⟨by rw [← hok2]; exact h95,by simpa using h100,by rw [List.length_drop] at h106; have:=HK (by rw [← hok2]; exact h95:Ke (QG r.1).2.1=true); omega⟩],bw⟩).1
end
end
section
open Go.RowKit
theorem Jl (b:UInt8):JO b=true↔((97≤b.toNat∧b.toNat≤122)∨(48≤b.toNat∧b.toNat≤57)∨b.toNat=46∨b.toNat=45∨b.toNat=95):=by
 have e:∀ n:UInt8,(b == n)=decide (b.toNat=n.toNat):=fun n=>by
  rw [Bool.eq_iff_iff,beq_iff_eq,decide_eq_true_eq];exact ⟨fun h=>by rw [h],fun h=>UInt8.toNat.inj h⟩
 unfold JO;rw [e,e,e];simp only [Bool.or_eq_true,Bool.and_eq_true,decide_eq_true_eq,or_assoc]
 rfl
theorem UW (b:UInt8) (h:¬((97≤b.toNat∧b.toNat≤122)∨(48≤b.toNat∧b.toNat≤57)∨b.toNat=46∨b.toNat=45∨b.toNat=95)):JO b=false:=by
 cases hb:JO b with
 | false=>rfl
 | true=>exact absurd ((Jl b).1 hb) h
theorem XM (s:List UInt8) (w:World) (hs:s.length≤9223372036854775807):Calls Tryz.prog 124 #[Qv s] w fun e w'=>e=.returned (.bool (Zj s))∧Below w.heap.size w w':=by
 refine Qj (args:=[Qv s]) 48 fz124 Z Z Z<|Qt [(0,Qv s)] ?_ ⟨Z,tvA⟩
 have bw:=Below.refl w.heap.size w
 refine Qa<|sa Z Z<|Wn<|tN<|Qe<|Qa<|sa Z Z<|Wn<|tN<|Qp<|JG (fun nw1_ lw1_ w1=>∃ i:Nat,nw1_=s.length-i∧lw1_=([(0,Qv s),(3,.int .i64 i)]:Env)∧(i≤s.length)∧(Below w.heap.size w w1)∧((s.take i).all JO=true)) _ ⟨_,⟨0,Z,Z,Nat.zero_le _,bw,Z⟩,⟨Z,Z,tvA⟩⟩ ?_
 clear bw;rintro nw1_ lw1_ w1 ⟨i,rfl,rfl,hi,bw,hp⟩;have zz1:=bw.size
 refine Qe<|Qa<|sm Z Z<|sm Z Z<|st (QP Z Z uz9) Z<|st (QJ Z Z) Z<|Wn<|tN<|Qx Z (fun h8=>?_) (fun h8=>?_)
 ·replace h8:=Qs h8
  obtain ⟨x,hx⟩:∃ x,s[i]?=some x:=⟨_,List.getElem?_eq_getElem Qb⟩
  have hgd:s.getD i 0=x:=by rw [List.getD_eq_getElem?_getD,hx]; rfl
  refine Qf<|tN<|Qe<|Qp<|Qa<|sm Z Z<|sm Z Z<|st (Ys Z Z uz9 Z Qb) Z ?_
  rw [hgd]
  refine sa Z Z<|Wn<|tN<|Qa<|sm Z Z<|st (QJ Z Z) Z<|sb Z Z (fun h16=>?_) (fun h16=>?_)
  ·replace h16:=Qs h16
   refine gN Z Z Z Z<|gN Z Z Z Z<|st (Qm Z Z) Z<|sm Z Z<|gY Z Z Z<|sm Z Z<|gY Z Z Z<|st (QJ Z Z) Z<|gY Z Z Z<|sb Z Z (fun h23=>?_) (fun h23=>?_)
   ·replace h23:=Qs h23
    refine gN Z Z Z Z<|gN Z Z Z Z<|gY Z Z Z<|st (Qm Z Z) Z<|st (Qm Z Z) Z<|sm Z Z<|gY Z Z Z<|sm Z Z<|gY Z Z Z<|st (QC Z Z) Z<|st (Qm Z Z) Z<|sb Z Z (fun h32=>?_) (fun h32=>?_)
    ·replace h32:=Qs h32
     refine gY Z Z Z<|sm Z Z<|gY Z Z Z<|st (QC Z Z) Z<|st (Qm Z Z) Z<|sb Z Z (fun h36=>?_) (fun h36=>?_)
     ·replace h36:=Qs h36
      refine gY Z Z Z<|sm Z Z<|gY Z Z Z<|st (QC Z Z) Z<|st (Qm Z Z) Z<|Wn<|tN<|Qx Z (fun h39=>?_) (fun h39=>?_)
      ·replace h39:=Qs h39
       refine Qa<|sa Z Z<|Wn<|tN<|Qg<|bR<|tR<|tR<|bR<|tR<|(rT Z Z ⟨?_,bw⟩).1
       have hno:s.all JO=false:=by
        rw [List.all_eq_false];exact ⟨x,List.mem_of_getElem? hx,by rw [UW x Qb]; simp⟩
       unfold Zj;rw [hno,Bool.and_false]
      ·replace h39:=Qs h39
       refine Qf<|bN<|tN<|Qw<|sm Z Z<|st (Qn Z Z Qb) Z<|sa Z Z<|Wn<|tN ⟨_,_,?_,⟨i+1,Z,Z,by omega,bw,by rw [QK hx,List.all_append,hp]; simp only [List.all_cons,List.all_nil,Bool.and_true,Bool.true_and]; exact (Jl x).2 Qb⟩,⟨Z,Z,tvA⟩⟩
       omega
     ·replace h36:=Qs h36
      refine gN Z Z Z Z<|gN Z Z Z Z<|st (Qq Z Z) Z<|Wn<|tN<|QX Z (Z)<|Qf<|bN<|tN<|Qw<|sm Z Z<|st (Qn Z Z Qb) Z<|sa Z Z<|Wn<|tN ⟨_,_,?_,⟨i+1,Z,Z,by omega,bw,by rw [QK hx,List.all_append,hp]; simp only [List.all_cons,List.all_nil,Bool.and_true,Bool.true_and]; exact (Jl x).2 Qb⟩,⟨Z,Z,tvA⟩⟩
      omega
    ·replace h32:=Qs h32
     refine gN Z Z Z Z<|gN Z Z Z Z<|st (Qq Z Z) Z<|sm Z Z<|gN Z Z Z Z<|gN Z Z Z Z<|st (Qq Z Z) Z<|Wn<|tN<|QX Z (Z)<|Qf<|bN<|tN<|Qw<|sm Z Z<|st (Qn Z Z Qb) Z<|sa Z Z<|Wn<|tN ⟨_,_,?_,⟨i+1,Z,Z,by omega,bw,by rw [QK hx,List.all_append,hp]; simp only [List.all_cons,List.all_nil,Bool.and_true,Bool.true_and]; exact (Jl x).2 Qb⟩,⟨Z,Z,tvA⟩⟩
     omega
   ·replace h23:=Qs h23
    refine gY Z Z Z<|sm Z Z<|gY Z Z Z<|st (Jg Z Z) Z<|gY Z Z Z<|st (Qq Z Z) Z<|st (Qm Z Z) Z<|sb Z Z (fun h28=>?_) (fun h28=>?_)
    ·replace h28:=Qs h28
     refine gY Z Z Z<|sm Z Z<|gY Z Z Z<|st (QC Z Z) Z<|st (Qm Z Z) Z<|sb Z Z (fun h32=>?_) (fun h32=>?_)
     ·replace h32:=Qs h32
      refine gY Z Z Z<|sm Z Z<|gY Z Z Z<|st (QC Z Z) Z<|st (Qm Z Z) Z<|sb Z Z (fun h36=>?_) (fun h36=>?_)
      ·replace h36:=Qs h36
       refine gY Z Z Z<|sm Z Z<|gY Z Z Z<|st (QC Z Z) Z<|st (Qm Z Z) Z<|Wn<|tN<|Qx Z (fun h39=>?_) (fun h39=>?_)
       ·replace h39:=Qs h39
        refine Qa<|sa Z Z<|Wn<|tN<|Qg<|bR<|tR<|tR<|bR<|tR<|(rT Z Z ⟨?_,bw⟩).1
        have hno:s.all JO=false:=by
         rw [List.all_eq_false];exact ⟨x,List.mem_of_getElem? hx,by rw [UW x Qb]; simp⟩
        unfold Zj;rw [hno,Bool.and_false]
       ·replace h39:=Qs h39
        refine Qf<|bN<|tN<|Qw<|sm Z Z<|st (Qn Z Z Qb) Z<|sa Z Z<|Wn<|tN ⟨_,_,?_,⟨i+1,Z,Z,by omega,bw,by rw [QK hx,List.all_append,hp]; simp only [List.all_cons,List.all_nil,Bool.and_true,Bool.true_and]; exact (Jl x).2 Qb⟩,⟨Z,Z,tvA⟩⟩
        omega
      ·replace h36:=Qs h36
       refine gN Z Z Z Z<|gN Z Z Z Z<|st (Qq Z Z) Z<|Wn<|tN<|QX Z (Z)<|Qf<|bN<|tN<|Qw<|sm Z Z<|st (Qn Z Z Qb) Z<|sa Z Z<|Wn<|tN ⟨_,_,?_,⟨i+1,Z,Z,by omega,bw,by rw [QK hx,List.all_append,hp]; simp only [List.all_cons,List.all_nil,Bool.and_true,Bool.true_and]; exact (Jl x).2 Qb⟩,⟨Z,Z,tvA⟩⟩
       omega
     ·replace h32:=Qs h32
      refine gN Z Z Z Z<|gN Z Z Z Z<|st (Qq Z Z) Z<|sm Z Z<|gN Z Z Z Z<|gN Z Z Z Z<|st (Qq Z Z) Z<|Wn<|tN<|QX Z (Z)<|Qf<|bN<|tN<|Qw<|sm Z Z<|st (Qn Z Z Qb) Z<|sa Z Z<|Wn<|tN ⟨_,_,?_,⟨i+1,Z,Z,by omega,bw,by rw [QK hx,List.all_append,hp]; simp only [List.all_cons,List.all_nil,Bool.and_true,Bool.true_and]; exact (Jl x).2 Qb⟩,⟨Z,Z,tvA⟩⟩
      omega
    ·replace h28:=Qs h28
     refine gN Z Z Z Z<|gN Z Z Z Z<|st (Qq Z Z) Z<|sm Z Z<|gN Z Z Z Z<|gN Z Z Z Z<|st (Qq Z Z) Z<|sm Z Z<|gN Z Z Z Z<|gN Z Z Z Z<|st (Qq Z Z) Z<|Wn<|tN<|QX Z (Z)<|Qf<|bN<|tN<|Qw<|sm Z Z<|st (Qn Z Z Qb) Z<|sa Z Z<|Wn<|tN ⟨_,_,?_,⟨i+1,Z,Z,by omega,bw,by rw [QK hx,List.all_append,hp]; simp only [List.all_cons,List.all_nil,Bool.and_true,Bool.true_and]; exact (Jl x).2 Qb⟩,⟨Z,Z,tvA⟩⟩
     omega
  ·replace h16:=Qs h16
   refine gY Z Z Z<|sm Z Z<|gY Z Z Z<|st (Jg Z Z) Z<|st (Qq Z Z) Z<|sb Z Z (fun h20=>?_) (fun h20=>?_)
   ·replace h20:=Qs h20
    refine gY Z Z Z<|sm Z Z<|gY Z Z Z<|st (QJ Z Z) Z<|gY Z Z Z<|sb Z Z (fun h23=>?_) (fun h23=>?_)
    ·replace h23:=Qs h23
     refine gN Z Z Z Z<|gN Z Z Z Z<|gY Z Z Z<|st (Qm Z Z) Z<|st (Qm Z Z) Z<|sm Z Z<|gY Z Z Z<|sm Z Z<|gY Z Z Z<|st (QC Z Z) Z<|st (Qm Z Z) Z<|sb Z Z (fun h32=>?_) (fun h32=>?_)
     ·replace h32:=Qs h32
      refine gY Z Z Z<|sm Z Z<|gY Z Z Z<|st (QC Z Z) Z<|st (Qm Z Z) Z<|sb Z Z (fun h36=>?_) (fun h36=>?_)
      ·replace h36:=Qs h36
       refine gY Z Z Z<|sm Z Z<|gY Z Z Z<|st (QC Z Z) Z<|st (Qm Z Z) Z<|Wn<|tN<|Qx Z (fun h39=>?_) (fun h39=>?_)
       ·replace h39:=Qs h39
        refine Qa<|sa Z Z<|Wn<|tN<|Qg<|bR<|tR<|tR<|bR<|tR<|(rT Z Z ⟨?_,bw⟩).1
        have hno:s.all JO=false:=by
         rw [List.all_eq_false];exact ⟨x,List.mem_of_getElem? hx,by rw [UW x Qb]; simp⟩
        unfold Zj;rw [hno,Bool.and_false]
       ·replace h39:=Qs h39
        refine Qf<|bN<|tN<|Qw<|sm Z Z<|st (Qn Z Z Qb) Z<|sa Z Z<|Wn<|tN ⟨_,_,?_,⟨i+1,Z,Z,by omega,bw,by rw [QK hx,List.all_append,hp]; simp only [List.all_cons,List.all_nil,Bool.and_true,Bool.true_and]; exact (Jl x).2 Qb⟩,⟨Z,Z,tvA⟩⟩
        omega
      ·replace h36:=Qs h36
       refine gN Z Z Z Z<|gN Z Z Z Z<|st (Qq Z Z) Z<|Wn<|tN<|QX Z (Z)<|Qf<|bN<|tN<|Qw<|sm Z Z<|st (Qn Z Z Qb) Z<|sa Z Z<|Wn<|tN ⟨_,_,?_,⟨i+1,Z,Z,by omega,bw,by rw [QK hx,List.all_append,hp]; simp only [List.all_cons,List.all_nil,Bool.and_true,Bool.true_and]; exact (Jl x).2 Qb⟩,⟨Z,Z,tvA⟩⟩
       omega
     ·replace h32:=Qs h32
      refine gN Z Z Z Z<|gN Z Z Z Z<|st (Qq Z Z) Z<|sm Z Z<|gN Z Z Z Z<|gN Z Z Z Z<|st (Qq Z Z) Z<|Wn<|tN<|QX Z (Z)<|Qf<|bN<|tN<|Qw<|sm Z Z<|st (Qn Z Z Qb) Z<|sa Z Z<|Wn<|tN ⟨_,_,?_,⟨i+1,Z,Z,by omega,bw,by rw [QK hx,List.all_append,hp]; simp only [List.all_cons,List.all_nil,Bool.and_true,Bool.true_and]; exact (Jl x).2 Qb⟩,⟨Z,Z,tvA⟩⟩
      omega
    ·replace h23:=Qs h23
     refine gY Z Z Z<|sm Z Z<|gY Z Z Z<|st (Jg Z Z) Z<|gY Z Z Z<|st (Qq Z Z) Z<|st (Qm Z Z) Z<|sb Z Z (fun h28=>?_) (fun h28=>?_)
     ·replace h28:=Qs h28
      refine gY Z Z Z<|sm Z Z<|gY Z Z Z<|st (QC Z Z) Z<|st (Qm Z Z) Z<|sb Z Z (fun h32=>?_) (fun h32=>?_)
      ·replace h32:=Qs h32
       refine gY Z Z Z<|sm Z Z<|gY Z Z Z<|st (QC Z Z) Z<|st (Qm Z Z) Z<|sb Z Z (fun h36=>?_) (fun h36=>?_)
       ·replace h36:=Qs h36
        refine gY Z Z Z<|sm Z Z<|gY Z Z Z<|st (QC Z Z) Z<|st (Qm Z Z) Z<|Wn<|tN<|Qx Z (fun h39=>?_) (fun h39=>?_)
        ·replace h39:=Qs h39
         refine Qa<|sa Z Z<|Wn<|tN<|Qg<|bR<|tR<|tR<|bR<|tR<|(rT Z Z ⟨?_,bw⟩).1
         have hno:s.all JO=false:=by
          rw [List.all_eq_false];exact ⟨x,List.mem_of_getElem? hx,by rw [UW x Qb]; simp⟩
         unfold Zj;rw [hno,Bool.and_false]
        ·replace h39:=Qs h39
         refine Qf<|bN<|tN<|Qw<|sm Z Z<|st (Qn Z Z Qb) Z<|sa Z Z<|Wn<|tN ⟨_,_,?_,⟨i+1,Z,Z,by omega,bw,by rw [QK hx,List.all_append,hp]; simp only [List.all_cons,List.all_nil,Bool.and_true,Bool.true_and]; exact (Jl x).2 Qb⟩,⟨Z,Z,tvA⟩⟩
         omega
       ·replace h36:=Qs h36
        refine gN Z Z Z Z<|gN Z Z Z Z<|st (Qq Z Z) Z<|Wn<|tN<|QX Z (Z)<|Qf<|bN<|tN<|Qw<|sm Z Z<|st (Qn Z Z Qb) Z<|sa Z Z<|Wn<|tN ⟨_,_,?_,⟨i+1,Z,Z,by omega,bw,by rw [QK hx,List.all_append,hp]; simp only [List.all_cons,List.all_nil,Bool.and_true,Bool.true_and]; exact (Jl x).2 Qb⟩,⟨Z,Z,tvA⟩⟩
        omega
      ·replace h32:=Qs h32
       refine gN Z Z Z Z<|gN Z Z Z Z<|st (Qq Z Z) Z<|sm Z Z<|gN Z Z Z Z<|gN Z Z Z Z<|st (Qq Z Z) Z<|Wn<|tN<|QX Z (Z)<|Qf<|bN<|tN<|Qw<|sm Z Z<|st (Qn Z Z Qb) Z<|sa Z Z<|Wn<|tN ⟨_,_,?_,⟨i+1,Z,Z,by omega,bw,by rw [QK hx,List.all_append,hp]; simp only [List.all_cons,List.all_nil,Bool.and_true,Bool.true_and]; exact (Jl x).2 Qb⟩,⟨Z,Z,tvA⟩⟩
       omega
     ·replace h28:=Qs h28
      refine gN Z Z Z Z<|gN Z Z Z Z<|st (Qq Z Z) Z<|sm Z Z<|gN Z Z Z Z<|gN Z Z Z Z<|st (Qq Z Z) Z<|sm Z Z<|gN Z Z Z Z<|gN Z Z Z Z<|st (Qq Z Z) Z<|Wn<|tN<|QX Z (Z)<|Qf<|bN<|tN<|Qw<|sm Z Z<|st (Qn Z Z Qb) Z<|sa Z Z<|Wn<|tN ⟨_,_,?_,⟨i+1,Z,Z,by omega,bw,by rw [QK hx,List.all_append,hp]; simp only [List.all_cons,List.all_nil,Bool.and_true,Bool.true_and]; exact (Jl x).2 Qb⟩,⟨Z,Z,tvA⟩⟩
      omega
   ·replace h20:=Qs h20
    refine gN Z Z Z Z<|gN Z Z Z Z<|gN Z Z Z Z<|gU Z Z Z Z<|gU Z Z Z Z<|gN Z Z Z Z<|st (Qq Z Z) Z<|sm Z Z<|gN Z Z Z Z<|gN Z Z Z Z<|st (Qq Z Z) Z<|sm Z Z<|gN Z Z Z Z<|gN Z Z Z Z<|st (Qq Z Z) Z<|sm Z Z<|gN Z Z Z Z<|gN Z Z Z Z<|st (Qq Z Z) Z<|Wn<|tN<|QX Z (Z)<|Qf<|bN<|tN<|Qw<|sm Z Z<|st (Qn Z Z Qb) Z<|sa Z Z<|Wn<|tN ⟨_,_,?_,⟨i+1,Z,Z,by omega,bw,by rw [QK hx,List.all_append,hp]; simp only [List.all_cons,List.all_nil,Bool.and_true,Bool.true_and]; exact (Jl x).2 Qb⟩,⟨Z,Z,tvA⟩⟩
    omega
 ·replace h8:=Qs h8
  obtain rfl:i=s.length:=by omega
  rw [List.take_length] at hp
  refine QQ<|tE<|tE<|bH<|tN<|Qa<|sm Z Z<|st (QP Z Z uz9) Z<|st (Z1 Z Z) Z<|sb Z Z (fun h43=>?_) (fun h43=>?_)
  ·replace h43:=Qs h43
   refine gY Z Z Z<|sm Z Z<|gY Z Z Z<|st (QP Z Z uz9) Z<|gY Z Z Z<|st (V7 Z Z) Z<|st (Qm Z Z) Z<|sa Z Z<|Wn<|tN<|Qg<|(rT Z Z ⟨?_,bw⟩).1
   have h1:s.isEmpty=false:=by
    cases s with
    | nil=>simp at h43
    | cons x l=>rfl
   have h2:decide ((s.length:Int)≤64)=decide (s.length≤64):=by rw [decide_eq_decide]; omega
   unfold Zj;rw [hp,Bool.and_true,h1,← h2]
   rfl
  ·replace h43:=Qs h43
   refine gN Z Z Z Z<|gN Z Z Z Z<|gN Z Z Z Z<|st (Qq Z Z) Z<|sa Z Z<|Wn<|tN<|Qg<|(rT Z Z ⟨?_,bw⟩).1
   have h1:s=[]:=List.eq_nil_of_length_eq_zero Qb;subst h1
   rfl
end
section
open Go.RowKit
structure RRec where
  n:Key
  f:FileD
  v:Value
def RRec.cells (r:RRec):List Value:=[Qv r.n,Qv r.f.last,r.v]
theorem RRec.cells_length (r:RRec):r.cells.length=3:=rfl
theorem QZ (rs:List RRec):∀ a∈rs,a.cells.length=3:=fun a _=>a.cells_length
structure RIn (w:World) (g:Nat) (D:DiskD) (vF:Value) (rs:List RRec):Prop where
  blk:Blk w g 53 #[vF,.int .i64 D.limit,.int .i64 D.refused,.bool D.stops,.int .i64 D.left]
  row:Row w 69 3 vF rs.length (rs.flatMap RRec.cells)
  files:rs.map (fun r=>(r.n,r.f))=D.files
  rows:∀ r∈rs,Row w 119 2 r.v r.f.pend.length (r.f.pend.flatMap QR)
theorem RIn.bel {w w':World} {g:Nat} {D:DiskD} {vF:Value} {rs:List RRec} (h:RIn w g D vF rs) (hb:Below w.heap.size w w'):RIn w' g D vF rs :=
 ⟨h.blk.bel hb,h.row.bel hb,h.files,fun r hr=>(h.rows r hr).bel hb⟩
theorem putsOk_at:∀ (l:List (Nat×List UInt8)) (s:List UInt8) (j:Nat) (p:Nat×List UInt8),PutsOk s.length l→l[j]?=some p→p.1≤(bytesM s (l.take j)).length∧p.2≠[]
 | [],_,_,_,_,h=>by simp at h
 | q::l,s,0,p,hp,h=>by
  simp only [List.getElem?_cons_zero,Option.some.injEq] at h;subst h;exact ⟨hp.1,hp.2.1⟩
 | q::l,s,j+1,p,hp,h=>by
  rw [List.getElem?_cons_succ] at h;have h1:=Jz (l:=s) (d:=q.2) hp.1;exact putsOk_at l (JH s q.1 q.2) j p (by rw [h1]; exact hp.2.2) h
theorem bytesM_take_le:∀ (l:List (Nat×List UInt8)) (s:List UInt8) (j:Nat),PutsOk s.length l→(bytesM s (l.take j)).length≤(bytesM s l).length
 | l,s,0,hp=>by rw [List.take_zero]; exact bytesM_len l s hp
 | [],s,j+1,_=>by simp
 | q::l,s,j+1,hp=>by
  have h1:=Jz (l:=s) (d:=q.2) hp.1;rw [List.take_succ_cons];exact bytesM_take_le l (JH s q.1 q.2) j (by rw [h1]; exact hp.2.2)
theorem Qll {l:List (Nat×List UInt8)} {s:List UInt8} {j:Nat} {p:Nat×List UInt8} (h:l[j]?=some p):bytesM s (l.take (j+1))=JH (bytesM s (l.take j)) p.1 p.2:=by
 rw [QK h,Qaj]
theorem Uz (s:List UInt8) (p:Nat×List UInt8) (w:World) (hp:p.1≤s.length) (hs:s.length≤1099511627776) (hd:p.2.length≤1099511627776):Calls Tryz.prog 49 #[Qv s,.agg #[.int .i64 p.1,Qv p.2]] w fun e w'=>e=.returned (Qv (JH s p.1 p.2))∧Below w.heap.size w w':=by
 have htl:(s.take p.1).length=p.1:=by rw [List.length_take]; omega
 unfold JH
 refine Qj (args:=[Qv s,.agg #[.int .i64 p.1,Qv p.2]]) 33 fz49 Z Z Z<|Qt [(0,Qv s),(1,.agg #[.int .i64 p.1,Qv p.2])] ?_ ⟨Z,Z,tvA⟩
 have bw:=Below.refl w.heap.size w
 refine Qa<|J1 Z Z (fun g3 w1 hB3 hg3 hb hl3=>?_)
 replace bw:=Ql bw hb;have zz1:=hb.size;clear hb
 refine sa Z Z<|Wn<|tN<|QS (fun G=>Blk G g3 119 #[.int .i64 p.1,Qv p.2]) [0,1,2,3,4,5,6,7] [Y,Y,Y,Y,Y,Y,Y,Y] Qo Qo (hB3.bel (JC X4)) ?_
 obtain ⟨w2,hw_,hb⟩:=QN w1;rw [← hw_];clear hw_;have hS:=hb;replace bw:=Ql bw hb;replace hB3:=hB3.bel hb;have zz2:=hb.size;clear hb
 refine oY Z (fun G U=>(Qd Z)) Z<|oY Z (fun G U=>(Qk Qhy Z)) Z<|oY Z (fun G U=>(Qi Z U uz3 Z Z)) Z<|oY Z (fun G U=>(KQ Z Z uz9 Z Qb)) Z<|oY Z (fun G U=>(Qk J3 Z)) Z<|oY Z (fun G U=>(Qi Z U uz9 Z Z)) Z<|oY Z (fun G U=>(JV Z Z Qb)) Z<|oY Z (fun G U=>(Qy Z)) Z<|oN<|nN<|Qe<|Qa<|st (Qk Qhy Z) Z<|st (Qi Z hB3 uz3 Z Z) Z<|st (Qk J3 Z) Z<|st (Qi Z hB3 uz9 Z Z) Z<|st (QP Z Z uz9) Z<|st (Qn Z Z Qb) Z<|sm Z Z<|st (QP Z Z uz9) Z<|st (QJ Z Z) Z<|Wn<|tN<|Qx Z (fun h21=>?_) (fun h21=>?_)
 ·replace h21:=Qs h21
  refine Qw<|sm Z Z<|sm Z Z<|st (Qk Qhy Z) Z<|st (Qi Z hB3 uz3 Z Z) Z<|st (Qk J3 Z) Z<|st (Qi Z hB3 uz9 Z Z) Z<|st (QP Z Z uz9) Z<|st (Qn Z Z Qb) Z<|st (Ka (i:=p.1+p.2.length) Z Z uz9 Qb Qb) Z ?_
  have hdl:=List.length_drop (i:=p.1+p.2.length) (l:=s)
  have hcl:(s.take p.1++p.2).length=p.1+p.2.length:=by rw [List.length_append,htl]
  refine st (JV Z Z Qb) Z<|sa Z Z<|Wn<|tN<|Qa<|sm Z Z<|sa Z Z<|Wn<|tN<|Qg ?_
  exact (rT Z Z ⟨Z,bw⟩).1
 ·replace h21:=Qs h21
  refine Qf<|tN<|Qa<|sm Z Z<|sa Z Z<|Wn<|tN<|Qg ?_
  rw [List.drop_of_length_le Qb,List.append_nil];exact (rT Z Z ⟨Z,bw⟩).1
theorem Qte (r:RRec) (w:World) (hR:Reads w 2 r.v r.f.pend.length (r.f.pend.flatMap QR)) (hok:PutsOk r.f.last.length r.f.pend) (hb_:(bytesM r.f.last r.f.pend).length≤16777216) (hpl:∀ p∈r.f.pend,p.2.length≤1099511627776) :
  Calls Tryz.prog 23 #[.agg r.cells.toArray] w fun e w'=>e=.returned (Qv (bytesM r.f.last r.f.pend))∧Below w.heap.size w w':=by
 obtain ⟨n,f,v⟩:=r;simp only at hR hok hb_ hpl ⊢;obtain ⟨a,c,rfl,hc1,hc2⟩:=hR.shape;have hnn:=hR.nle
 refine Qj (args:=[.agg #[Qv n,Qv f.last,.slice a f.pend.length c]]) 22 fz23 Z Z Z<|Qt [(0,.agg #[Qv n,Qv f.last,.slice a f.pend.length c])] ?_ ⟨Z,tvA⟩
 have bw:=Below.refl w.heap.size w
 refine Qa<|J1 Z Z (fun g1 w1 hB1 hg1 hb hl1=>?_)
 replace bw:=Ql bw hb;have zz1:=hb.size;clear hb
 refine sa Z Z<|Wn<|tN<|Qa<|st (Qk Vu Z) Z<|st (Qi Z hB1 uz9 Z Z) Z<|sa Z Z<|Wn<|tN<|Qe<|Qa<|sa Z Z<|Wn<|tN<|Qp<|JG (fun nw2_ lw2_ w2=>∃ j:Nat,nw2_=f.pend.length-j∧lw2_=([(1,.pointer (some ⟨g1,0,none⟩)),(3,Qv (bytesM f.last (f.pend.take j))),(4,.int .i64 j)]:Env)∧(Blk w2 g1 69 #[Qv n,Qv f.last,.slice a f.pend.length c])∧(j≤f.pend.length)∧(Below w.heap.size w w2)) _ ⟨_,⟨0,Z,Z,hB1,by omega,bw⟩,⟨Z,Z,Z,tvA⟩⟩ ?_
 clear hB1 bw;rintro nw2_ lw2_ w2 ⟨j,rfl,rfl,hB1,hj,bw⟩;have zz2:=bw.size;have hlt_hB1_w2:=hB1.lt
 refine Qe<|Qa<|sm Z Z<|st (Qk KE Z) Z<|st (Qi Z hB1 uz67 Z Z) Z<|st (QT Z Z uz67) Z<|st (QJ Z Z) Z<|Wn<|tN<|Qx Z (fun h11=>?_) (fun h11=>?_)
 ·replace h11:=Qs h11
  obtain ⟨p,hp⟩:∃ p,f.pend[j]?=some p:=⟨_,List.getElem?_eq_getElem Qb⟩
  obtain ⟨gp,op,c',hv,hgp⟩:=hR.some_ Qb;injection hv with e1 _ e3;subst e1 e3;have hpo:=putsOk_at _ _ _ _ hok hp;have hle:=bytesM_take_le _ _ j hok
  refine Qf<|tN<|Qe<|Qp<|Qw<|sm Z Z<|st (Qk KE Z) Z<|st (Qi Z hB1 uz67 Z Z) Z<|sm Z Z<|st (QA Z Z uz67 siz119 Z Qb) Z<|st (Jw (cs:=QR p) Z uz119 Z siz119 ((hR.bel bw).rec_ (f:=QR) (fun a _=>J7 a) hp)) Z<|sc _ fz49 Z Qo Z Z (Q3 (Uz (bytesM f.last (f.pend.take j)) p _ hpo.1 Qb (hpl p (List.mem_of_getElem? hp))) fun w3 hb=>?_)
  replace bw:=Ql bw hb;replace hB1:=hB1.bel hb;have zz3:=hb.size;clear hb
  refine sa Z Z<|Wn<|bN<|tN<|Qw<|sm Z Z<|st (Qn Z Z Qb) Z<|sa Z Z<|Wn<|tN ⟨_,_,?_,⟨j+1,Z,Z,hB1,by omega,bw⟩,⟨Z,by rw [Qll hp]; rfl,Z,tvA⟩⟩
  omega
 ·replace h11:=Qs h11
  refine QQ<|tE<|tE<|bH<|tN<|Qa<|sm Z Z<|sa Z Z<|Wn<|tN<|Qg ?_
  obtain rfl:j=f.pend.length:=by omega
  rw [List.take_length];exact (rT Z Z ⟨Z,bw⟩).1
def PlaceIs (rs:List RRec) (n:Key):Option Nat→Prop
  | none=>∀ r∈rs,r.n≠n
  | some i=>(∃ r,rs[i]?=some r∧r.n=n)∧∀ j s,j<i→rs[j]?=some s→s.n≠n
def placeV:Option Nat→Int
  | none=>-1
  | some i=>i
theorem PlaceIs.at_ {rs:List RRec} {n:Key} {o:Option Nat} (h:PlaceIs rs n o) {i:Nat} {r:RRec} (hr:rs[i]?=some r) (hn:r.n=n) (hi:∀ j s,j<i→rs[j]?=some s→s.n≠n):o=some i:=by
 cases o with
 | none=>exact absurd hn (h r (List.mem_of_getElem? hr))
 | some k =>
  obtain ⟨⟨s,hs,hsn⟩,hm⟩:=h
  rcases Nat.lt_trichotomy k i with e|e|e
  ·exact absurd hsn<|hi k s e hs
  ·rw [e]
  ·exact absurd hn<|hm i r e hr
theorem PlaceIs.out {rs:List RRec} {n:Key} {o:Option Nat} (h:PlaceIs rs n o) (hi:∀ j s,j<rs.length→rs[j]?=some s→s.n≠n):o=none:=by
 cases o with
 | none=>rfl
 | some k =>
  obtain ⟨⟨s,hs,hsn⟩,hm⟩:=h
  exact absurd hsn<|hi k s (List.getElem?_eq_some_iff.1 hs).1 hs
theorem Jp (g:Nat) (D:DiskD) (vF:Value) (rs:List RRec) (n:Key) (o:Option Nat) (w:World) (h:RIn w g D vF rs) (ho:PlaceIs rs n o) :
  Calls Tryz.prog 60 #[.pointer (some ⟨g,0,none⟩),Qv n] w fun e w'=>e=.returned (.int .i64 (placeV o))∧w=w':=by
 have hB:=h.blk;have hR:=h.row.reads;obtain ⟨a,c,rfl,hc1,hc2⟩:=hR.shape;have hnn:=hR.nle;clear h
 refine Qj (args:=[.pointer (some ⟨g,0,none⟩),Qv n]) 26 fz60 Z Z Z<|Qt [(0,.pointer (some ⟨g,0,none⟩)),(1,Qv n)] ?_ ⟨Z,Z,tvA⟩
 refine Qa<|sa Z Z<|Wn<|tN<|Qe<|Qa<|sa Z Z<|Wn<|tN<|Qp<|JG (fun nw1_ lw1_ w1=>∃ i:Nat,nw1_=rs.length-i∧lw1_=([(0,.pointer (some ⟨g,0,none⟩)),(1,Qv n),(5,.int .i64 i)]:Env)∧(w1=w)∧(i≤rs.length)∧(∀ j s,j<i→rs[j]?=some s→s.n≠n)) _ ⟨_,⟨0,Z,Z,Z,by omega,(fun j s hj=>by omega)⟩,⟨Z,Z,Z,tvA⟩⟩ ?_
 rintro nw1_ lw1_ w1 ⟨i,rfl,rfl,hw,hi,hne⟩;have hlt_hB_w1:=hB.lt;subst hw
 refine Qe<|Qa<|sm Z Z<|sm Z Z<|st (Qc Z) Z<|st (Qk Jj Z) Z<|st (Qi Z hB uz51 Z Z) Z<|st (QT Z Z uz51) Z<|st (QJ Z Z) Z<|Wn<|tN<|Qx Z (fun h12=>?_) (fun h12=>?_)
 ·replace h12:=Qs h12
  obtain ⟨x,hx⟩:∃ x,rs[i]?=some x:=⟨_,List.getElem?_eq_getElem Qb⟩
  obtain ⟨gF,oF,c',hv,hgF⟩:=hR.some_ Qb;injection hv with e1 _ e3;subst e1 e3;have hrec:=hR.rec_ (f:=RRec.cells) (QZ rs) hx
  refine Qf<|tN<|Qe<|Qp<|Qa<|sm Z Z<|st (Qc Z) Z<|st (Qk Jj Z) Z<|st (Qi Z hB uz51 Z Z) Z<|sm Z Z<|st (QA Z Z uz51 siz69 Z Qb) Z<|st (Qk Qdj Z) Z<|st (JS Z uz9 Z (hrec 0 _ Z)) Z<|sm Z Z<|st (KR Z Z) Z<|Wn<|tN<|Qx Z (fun h24=>?_) (fun h24=>?_)
  ·replace h24:=Qs h24
   obtain rfl:=ho.at_ hx h24 hne
   refine Qa<|sm Z Z<|sa Z Z<|Wn<|tN<|Qg<|bR<|tR<|tR<|bR<|tR ?_
   exact (rT Z Z ⟨Z,Z⟩).1
  ·replace h24:=Qs h24
   refine Qf<|bN<|tN<|Qw<|sm rfl rfl<|st (Qn rfl rfl Qb) rfl<|sa rfl rfl<|Wn<|tN ⟨_,_,?_,⟨i+1,rfl,rfl,rfl,by omega,(fun j s hj hs=>by rcases Nat.lt_or_ge j i with e|e; exact hne j s e hs; obtain rfl:j=i:=Qb; rw [hx] at hs; injection hs with hs; rw [← hs]; exact h24)⟩,⟨rfl,rfl,rfl,tvA⟩⟩
   omega
 ·replace h12:=Qs h12
  refine QQ<|tE<|tE<|bH<|tN<|Qa<|sa Z Z<|Wn<|tN<|Qg ?_
  obtain rfl:i=rs.length:=by omega
  obtain rfl:=ho.out hne;exact (rT Z Z ⟨Z,Z⟩).1
theorem RIn.fok {w:World} {g:Nat} {D:DiskD} {vF:Value} {rs:List RRec} (h:RIn w g D vF rs) (hok:DOk D) {r:RRec} (hr:r∈rs):FOk r.f∧mget D.files r.n=some r.f:=by
 have hm:(r.n,r.f)∈D.files:=by rw [← h.files]; exact List.mem_map.2 ⟨r,hr,rfl⟩
 have hg:=Yj hok.srt.nodup hm;exact ⟨hok.fok _ _ hg,hg⟩
theorem Ug {l:List (Nat×List UInt8)} {p:Nat×List UInt8} (h:p∈l):p.2.length≤pendLen l:=by
 induction l with
 | nil=>cases h
 | cons q l ih =>
  unfold pendLen
  rcases List.mem_cons.1 h with h|h
  ·subst h; omega
  ·have:=ih h; omega
theorem Kp {g:Nat} {D:DiskD} {vF:Value} {rs:List RRec} {r:RRec} {w:World} (h:RIn w g D vF rs) (hok:DOk D) (hbud:DBud D) (hr:r∈rs) :
  Calls Tryz.prog 23 #[.agg r.cells.toArray] w fun e w'=>e=.returned (Qv r.f.now)∧Below w.heap.size w w':=by
 obtain ⟨hf,hg⟩:=h.fok hok hr;have hl:=(hok.len hg).1;have hp:=(hbud.pend _ _ hg).1
 have:=Qte r w (h.rows r hr).reads hf.puts (by rw [← hf.now]; exact hl) (fun p hp'=>Nat.le_trans (Ug hp') hp)
 rwa [← hf.now] at this
theorem Qmg {l:List (Key×FileD)} {j:Nat} {p:Key×FileD} (h:l[j]?=some p):usedM (l.take (j+1))=usedM (l.take j)+p.2.now.length:=by
 rw [QK h,Yz];simp [usedM]
theorem Qem (l:List (Key×FileD)) (j:Nat):usedM (l.take j)≤usedM l:=by
 have:=Yz (l.take j) (l.drop j)
 rw [List.take_append_drop] at this
 omega
theorem RIn.file {w:World} {g:Nat} {D:DiskD} {vF:Value} {rs:List RRec} (h:RIn w g D vF rs) {j:Nat} {r:RRec} (hr:rs[j]?=some r):D.files[j]?=some (r.n,r.f):=by
 rw [← h.files,List.getElem?_map,hr]
 rfl
theorem RIn.len {w:World} {g:Nat} {D:DiskD} {vF:Value} {rs:List RRec} (h:RIn w g D vF rs):rs.length=D.files.length:=by
 rw [← h.files,List.length_map]
theorem Qga (g:Nat) (D:DiskD) (vF:Value) (rs:List RRec) (w:World) (h:RIn w g D vF rs) (hok:DOk D) (hbud:DBud D) :
  Calls Tryz.prog 10 #[.pointer (some ⟨g,0,none⟩)] w fun e w'=>e=.returned (.int .i64 D.used)∧Below w.heap.size w w':=by
 have hB:=h.blk;obtain ⟨a,c,rfl,hc1,hc2⟩:=h.row.shape;have hnn:=h.row.nle
 have hum:usedM D.files≤16777216:=by have:=hok.used; have:=hok.room; have:=hok.lim; omega
 refine Qj (args:=[.pointer (some ⟨g,0,none⟩)]) 26 Tryz.func10 Z Z Z<|Qt [(0,.pointer (some ⟨g,0,none⟩))] ?_ ⟨Z,tvA⟩
 have bw:=Below.refl w.heap.size w
 refine Qa<|sa Z Z<|Wn<|tN<|Qa<|sa Z Z<|Wn<|tN<|Qe<|Qa<|sa Z Z<|Wn<|tN<|Qp<|JG (fun nw1_ lw1_ w1=>∃ i:Nat,nw1_=rs.length-i∧lw1_=([(0,.pointer (some ⟨g,0,none⟩)),(3,.int .i64 (usedM (D.files.take i))),(4,.int .i64 i)]:Env)∧(Blk w1 g 53 #[.slice a rs.length c,.int .i64 D.limit,.int .i64 D.refused,.bool D.stops,.int .i64 D.left])∧(i≤rs.length)∧(Below w.heap.size w w1)) _ ⟨_,⟨0,Z,Z,hB,by omega,bw⟩,⟨Z,Z,Z,tvA⟩⟩ ?_
 clear hB bw;rintro nw1_ lw1_ w1 ⟨i,rfl,rfl,hB,hi,bw⟩;have zz1:=bw.size;have hlt_hB_w1:=hB.lt;have hut:=Qem D.files i
 refine Qe<|Qa<|sm Z Z<|sm Z Z<|st (Qc Z) Z<|st (Qk Jj Z) Z<|st (Qi Z hB uz51 Z Z) Z<|st (QT Z Z uz51) Z<|st (QJ Z Z) Z<|Wn<|tN<|Qx Z (fun h11=>?_) (fun h11=>?_)
 ·replace h11:=Qs h11
  obtain ⟨x,hx⟩:∃ x,rs[i]?=some x:=⟨_,List.getElem?_eq_getElem Qb⟩
  obtain ⟨gF,oF,c',hv,hgF⟩:=h.row.reads.some_ Qb;injection hv with e1 _ e3;subst e1 e3;have hxl:=(hok.len (h.fok hok (List.mem_of_getElem? hx)).2).1
  refine Qf<|tN<|Qe<|Qp<|Qw<|sm Z Z<|sm Z Z<|st (Qc Z) Z<|st (Qk Jj Z) Z<|st (Qi Z hB uz51 Z Z) Z<|sm Z Z<|st (QA Z Z uz51 siz69 Z Qb) Z<|st (Jw (cs:=x.cells) Z uz69 Z siz69 ((h.bel bw).row.reads.rec_ (f:=RRec.cells) (QZ rs) hx)) Z<|sc _ fz23 Z Qo Z Z (Q3 (Kp (h.bel bw) hok hbud (List.mem_of_getElem? hx)) fun w2 hb=>?_)
  replace bw:=Ql bw hb;replace hB:=hB.bel hb;have zz2:=hb.size;clear hb
  refine st (QP Z Z uz9) Z<|st (Qn Z Z Qb) Z<|sa Z Z<|Wn<|bN<|tN<|Qw<|sm Z Z<|st (Qn Z Z Qb) Z<|sa Z Z<|Wn<|tN ⟨_,_,?_,⟨i+1,Z,Z,hB,by omega,bw⟩,⟨Z,by rw [Qmg (h.file hx),Int.natCast_add]; rfl,Z,tvA⟩⟩
  omega
 ·replace h11:=Qs h11
  refine QQ<|tE<|tE<|bH<|tN<|Qa<|sm Z Z<|sa Z Z<|Wn<|tN<|Qg ?_
  obtain rfl:i=rs.length:=by omega
  have hu:=hok.used;rw [h.len,List.take_length,← hu];exact (rT Z Z ⟨Z,bw⟩).1
theorem RIn.tick {w w':World} {g:Nat} {D:DiskD} {vF:Value} {rs:List RRec} (h:RIn w g D vF rs) (hC:Chg (fun k=>k=g) w w') (hB:Blk w' g 53 #[vF,.int .i64 D.limit,.int .i64 D.refused,.bool (QH D).stops,.int .i64 (QH D).left]):RIn w' g (QH D) vF rs:=by
 have e1:(QH D).limit=D.limit:=by unfold QH; split <;> rfl
 have e2:(QH D).refused=D.refused:=by unfold QH; split <;> rfl
 refine ⟨by rw [e1,e2]; exact hB,h.row.chg hC (h.row.ne2 h.blk QF),by rw [Zh]; exact h.files,fun r hr=>(h.rows r hr).chg hC ((h.rows r hr).ne2 h.blk QF)⟩
theorem XF (g:Nat) (D:DiskD) (vF:Value) (rs:List RRec) (w:World) (h:RIn w g D vF rs) (hl:D.stops=true∧D.left=0):Calls Tryz.prog 114 #[.pointer (some ⟨g,0,none⟩)] w fun e w'=>e=.returned (.bool true)∧w=w':=by
 have hB:=h.blk
 refine Qj (args:=[.pointer (some ⟨g,0,none⟩)]) 21 fz114 Z Z Z<|Qt [(0,.pointer (some ⟨g,0,none⟩))] ?_ ⟨Z,tvA⟩
 refine Qa<|sa Z Z<|Wn<|tN<|Qe<|Qa<|sm Z Z<|st (Qc Z) Z<|st (Qk Qhq Z) Z<|st (Qi Z hB uz4 Z Z) Z<|st (Jk Z) Z<|Wn<|tN<|QX Z (by rw [hl.1]; rfl) ?_
 refine Qf<|tN<|Qe<|Qa<|sm Z Z<|st (Qc Z) Z<|st (Qk Qhp Z) Z<|st (Qi Z hB uz3 Z Z) Z<|st (QL Z Z) Z<|Wn<|tN<|QO Z (decide_eq_true hl.2)<|Qa<|sa Z Z<|Wn<|tN<|Qg<|tR ?_
 exact (rT Z Z ⟨Z,Z⟩).1
theorem KJ (g:Nat) (D:DiskD) (vF:Value) (rs:List RRec) (w:World) (h:RIn w g D vF rs) (hok:DOk D) (hl:¬(D.stops=true∧D.left=0)):Calls Tryz.prog 114 #[.pointer (some ⟨g,0,none⟩)] w fun e w'=>e=.returned (.bool false)∧RIn w' g (QH D) vF rs∧Chg (fun k=>k=g) w w':=by
 have hB:=h.blk
 cases hs:D.stops with
 | false =>
  rw [hs] at hB
  have ht:QH D=D:=by unfold QH; rw [if_neg (by simp [hs])]
  rw [ht]
  refine Qj (args:=[.pointer (some ⟨g,0,none⟩)]) 21 fz114 Z Z Z<|Qt [(0,.pointer (some ⟨g,0,none⟩))] ?_ ⟨Z,tvA⟩
  have hcw:=Chg.refl (fun k=>k=g) w
  refine Qa<|sa Z Z<|Wn<|tN<|Qe<|Qa<|sm Z Z<|st (Qc Z) Z<|st (Qk Qhq Z) Z<|st (Qi Z hB uz4 Z Z) Z<|st (Jk Z) Z<|Wn<|tN<|QO Z (Z)<|Qa<|sa Z Z<|Wn<|tN<|Qg<|tR ?_
  exact (rT Z Z ⟨Z,h,hcw⟩).1
 | true =>
  have hl0:D.left≠0:=fun e=>hl ⟨hs,e⟩
  have hst:=hok.stp hs
  have ht:QH D={ D with left:=D.left-1 }:=by unfold QH; rw [if_pos hs]
  rw [hs] at hB;have hlt:=hB.lt
  refine Qj (args:=[.pointer (some ⟨g,0,none⟩)]) 21 fz114 Z Z Z<|Qt [(0,.pointer (some ⟨g,0,none⟩))] ?_ ⟨Z,tvA⟩
  have hcw:=Chg.refl (fun k=>k=g) w
  refine Qa<|sa Z Z<|Wn<|tN<|Qe<|Qa<|sm Z Z<|st (Qc Z) Z<|st (Qk Qhq Z) Z<|st (Qi Z hB uz4 Z Z) Z<|st (Jk Z) Z<|Wn<|tN<|QX Z (Z)<|Qf<|tN<|Qe<|Qa<|sm Z Z<|st (Qc Z) Z<|st (Qk Qhp Z) Z<|st (Qi Z hB uz3 Z Z) Z<|st (QL Z Z) Z<|Wn<|tN<|QX Z (decide_eq_false hl0)<|Qf<|tN<|Qa<|sm Z Z<|sm Z Z ?_
  refine st (Qc Z) Z<|st (Qk Qhp Z) Z<|st (Qi Z hB uz3 Z Z) Z<|st (JU Z Z Qb) Z<|st (Qc Z) Z<|st (Qk Qhp Z) Z<|KL Z Z hB siz3 Z (by first|decide|simp) (fun w1 bB cC=>?_)
  replace hB:=bB;clear bB;replace hcw:=hcw.next cC KO;have zz1:=cC.size;clear cC
  refine Wn<|tN<|Qa<|sa Z Z<|Wn<|tN<|Qg ?_
  exact (rT Z Z ⟨Z,h.tick hcw (by rw [ht]; show Blk _ _ _ #[_,_,_,.bool D.stops,_]; rw [hs]; exact hB),hcw⟩).1
end
section
open Go.RowKit
theorem flat_drop3:∀ (l:List RRec) (i:Nat),(l.flatMap RRec.cells).drop (i*3)=(l.drop i).flatMap RRec.cells
 | l,0=>by simp
 | [],i+1=>by simp
 | x::l,i+1=>by
  rw [List.drop_succ_cons,← flat_drop3 l i,List.flatMap_cons,List.drop_append,List.drop_of_length_le (by rw [RRec.cells_length]; omega),RRec.cells_length,List.nil_append]
  congr 1
  omega
theorem flat_take3:∀ (l:List RRec) (i:Nat),(l.flatMap RRec.cells).take (i*3)=(l.take i).flatMap RRec.cells
 | l,0=>by simp
 | [],i+1=>by simp
 | x::l,i+1=>by
  rw [List.take_succ_cons,List.flatMap_cons,List.flatMap_cons,← flat_take3 l i,List.take_append,List.take_of_length_le (by rw [RRec.cells_length]; omega),RRec.cells_length]
  congr 2
  omega
theorem ZV {rs:List RRec} (h:∀ r∈rs,r.v.oneCell'=true):∀ u∈rs.flatMap RRec.cells,u.oneCell'=true:=by
 intro u hu;obtain ⟨r,hr,hu⟩:=List.mem_flatMap.1 hu;simp only [RRec.cells,List.mem_cons,List.not_mem_nil,or_false] at hu
 rcases hu with rfl|rfl|rfl
 ·rfl
 ·rfl
 ·exact h r hr
theorem RIn.ones {w:World} {g:Nat} {D:DiskD} {vF:Value} {rs:List RRec} (h:RIn w g D vF rs):∀ r∈rs,r.v.oneCell'=true:=fun r hr=>(h.rows r hr).one1
def insR:List RRec→RRec→List RRec
  | [],r=>[r]
  | a::l,r=>if r.n<a.n then r::a::l else a::insR l r
theorem Qvd {rs:List RRec} {r:RRec} (h:∀ a∈rs,a.n≠r.n):(insR rs r).map (fun r=>(r.n,r.f))=sput (rs.map fun r=>(r.n,r.f)) r.n r.f:=by
 induction rs with
 | nil=>rfl
 | cons a l ih =>
  have h1:=h a (List.mem_cons_self ..);have h2:=ih (fun b hb=>h b (List.mem_cons_of_mem _ hb));rw [List.map_cons,sput,if_neg (show ¬r.n=a.n from fun e=>h1 e.symm)]
  by_cases hlt:r.n<a.n
  ·rw [insR,if_pos hlt,if_pos hlt]
   rfl
  ·rw [insR,if_neg hlt,if_neg hlt,List.map_cons,h2]
theorem Xx {rs:List RRec} {r a:RRec} (h:a∈insR rs r):a=r∨a∈rs:=by
 induction rs with
 | nil=>simpa [insR] using h
 | cons b l ih =>
  unfold insR at h
  split at h
  ·rcases List.mem_cons.1 h with h|h
   ·exact .inl h
   ·exact .inr h
  ·rcases List.mem_cons.1 h with h|h
   ·exact .inr (by rw [h]; exact List.mem_cons_self ..)
   ·exact (ih h).imp (fun e=>e)<|List.mem_cons_of_mem _
theorem Qkq (rs:List RRec) (r:RRec):(insR rs r).length=rs.length+1:=by
 induction rs with
 | nil=>rfl
 | cons a l ih =>
  unfold insR
  split
  ·simp
  ·simp [ih]
def Zl (rs:List RRec) (i:Nat):List RRec:=rs.take i++rs.drop (i+1)
theorem delR_map:∀ {rs:List RRec} {i:Nat} {r:RRec},rs[i]?=some r→(∀ j s,j<i→rs[j]?=some s→s.n≠r.n)→(Zl rs i).map (fun r=>(r.n,r.f))=mdel (rs.map fun r=>(r.n,r.f)) r.n
 | [],_,_,h,_=>by simp at h
 | a::l,0,r,h,_=>by
  simp only [List.getElem?_cons_zero,Option.some.injEq] at h;subst h;simp [Zl,mdel]
 | a::l,i+1,r,h,hm=>by
  rw [List.getElem?_cons_succ] at h;have h0:=hm 0 a Qb rfl
  have:=delR_map (rs:=l) (i:=i) h (fun j s hj hs=>hm (j+1) s Qb (by rw [List.getElem?_cons_succ]; exact hs))
  simp only [Zl,List.take_succ_cons,List.cons_append,List.map_cons,List.drop_succ_cons] at this ⊢;rw [mdel,if_neg (fun e=>h0 e.symm)];rw [← this]
theorem Qhc {a b:List UInt8}:(!(Op.bytesLess a b || a == b))=true↔b<a:=by
 have h1:Op.bytesLess a b=decide (a<b):=by
  have h:=bytesLess_eq a b;exact h
 rw [h1];simp only [Bool.not_eq_true',Bool.or_eq_false_iff,decide_eq_false_iff_not,beq_eq_false_iff_ne]
 constructor
 ·rintro ⟨p,q⟩
  rcases Ui a b with e|e|e
  ·exact absurd e p
  ·exact absurd e q
  ·exact e
 ·intro e;exact ⟨fun p=>Jt _ (JL p e),fun p=>by rw [p] at e; exact Jt _ e⟩
def PutInv (rs:List RRec) (r:RRec) (i:Nat) (dn:Bool) (out:List RRec):Prop :=
  if dn=true then insR rs r=out++rs.drop i else out=rs.take i∧insR rs r=rs.take i++insR (rs.drop i) r
theorem PutInv.len {rs out:List RRec} {r:RRec} {i:Nat} {dn:Bool} (h:PutInv rs r i dn out) (hi:i≤rs.length):out.length≤i+1:=by
 unfold PutInv at h
 split at h
 ·have e:=congrArg List.length h;rw [Qkq,List.length_append,List.length_drop] at e
  omega
 ·rw [h.1,List.length_take]
  omega
theorem PutInv.first {rs out:List RRec} {r x:RRec} {i:Nat} (h:PutInv rs r i false out) (hd:rs.drop i=x::rs.drop (i+1)) (hlt:r.n<x.n):PutInv rs r i true (out++[r]):=by
 obtain ⟨h1,h2⟩:=h
 show insR rs r=out++[r]++rs.drop i
 rw [h2,← h1,hd,insR,if_pos hlt]
 simp
theorem PutInv.next {rs out:List RRec} {r x:RRec} {i:Nat} {dn:Bool} (h:PutInv rs r i dn out) (hd:rs.drop i=x::rs.drop (i+1)) (hx:rs[i]?=some x) (hc:dn=false→¬r.n<x.n):PutInv rs r (i+1) dn (out++[x]):=by
 cases dn with
 | true =>
  have h':insR rs r=out++rs.drop i:=h
  show insR rs r=out++[x]++rs.drop (i+1)
  rw [h',hd]
  simp
 | false =>
  obtain ⟨h1,h2⟩:=h;refine ⟨by rw [h1,QK hx],?_⟩;rw [h2,hd,insR,if_neg (hc rfl),QK hx]
  simp
theorem Qcg (g:Nat) (D:DiskD) (vF:Value) (rs:List RRec) (r:RRec) (w:World) (h:RIn w g D vF rs) (h1:r.v.oneCell'=true) (hrl:rs.length≤1000000) :
  Calls Tryz.prog 125 #[.pointer (some ⟨g,0,none⟩),.agg r.cells.toArray] w fun e w'=>e=.returned (.tuple #[])∧∃ vo,Blk w' g 53 #[vo,.int .i64 D.limit,.int .i64 D.refused,.bool D.stops,.int .i64 D.left] ∧
   Row w' 69 3 vo (insR rs r).length ((insR rs r).flatMap RRec.cells)∧(∀ k,vo.ownBlock=some k→w.heap.size≤k)∧Chg (fun k=>k=g) w w':=by
 have hB:=h.blk;have hlt:=hB.lt;obtain ⟨a,c,rfl,hc1,hc2⟩:=h.row.shape;have hnn:=h.row.nle;obtain ⟨n,f,v⟩:=r
 refine Qj (args:=[.pointer (some ⟨g,0,none⟩),.agg #[Qv n,Qv f.last,v]]) 55 Tryz.func125 Z Z Z<|Qt [(0,.pointer (some ⟨g,0,none⟩)),(1,.agg #[Qv n,Qv f.last,v])] ?_ ⟨Z,Z,tvA⟩
 have bw:=Below.refl w.heap.size w
 refine Qa<|J1 Z Z (fun g3 w1 hB3 hg3 hb hl3=>?_)
 replace bw:=Ql bw hb;have zz1:=hb.size;clear hb
 refine Wn<|tN<|Qa<|sa Z Z<|Wn<|tN<|Qa<|sa Z Z<|Wn<|tN<|Qe<|Qa<|sa Z Z<|Wn<|tN<|Qp<|JG (fun nw2_ lw2_ w2=>∃ i:Nat,∃ dn:Bool,∃ out:List RRec,∃ vo:Value,nw2_=rs.length-i∧lw2_=([(0,.pointer (some ⟨g,0,none⟩)),(3,.pointer (some ⟨g3,0,none⟩)),(4,vo),(5,.bool dn),(6,.int .i64 i)]:Env)∧(Row w2 69 3 vo out.length (out.flatMap RRec.cells))∧(∀ k,vo.ownBlock=some k→w.heap.size≤k∧¬k=g3)∧(Blk w2 g 53 #[.slice a rs.length c,.int .i64 D.limit,.int .i64 D.refused,.bool D.stops,.int .i64 D.left])∧(Blk w2 g3 69 #[Qv n,Qv f.last,v])∧(i≤rs.length)∧(PutInv rs ⟨n,f,v⟩ i dn out)∧(Below w.heap.size w w2)) _ ⟨_,⟨0,false,[],.slice none 0 0,Z,Z,Row.nil _ _ _,(by simp [Value.ownBlock]),h.blk.bel bw,hB3,by omega,⟨Z,by simp⟩,bw⟩,⟨Z,Z,Z,Z,Z,tvA⟩⟩ ?_
 clear hB3 bw;rintro nw2_ lw2_ w2 ⟨i,dn,out,vo,rfl,rfl,hR,hvo,hB,hB3,hi,hin,bw⟩;have zz2:=bw.size;have hlt_hB_w2:=hB.lt;have hlt_hB3_w2:=hB3.lt;have hol:=hin.len hi
 refine Qe<|Qa<|sm Z Z<|sm Z Z<|st (Qc Z) Z<|st (Qk Jj Z) Z<|st (Qi Z hB uz51 Z Z) Z<|st (QT Z Z uz51) Z<|st (QJ Z Z) Z<|Wn<|tN<|Qx Z (fun h13=>?_) (fun h13=>?_)
 ·replace h13:=Qs h13
  obtain ⟨x,hx⟩:∃ x,rs[i]?=some x:=⟨_,List.getElem?_eq_getElem Qb⟩
  obtain ⟨gF,oF,c',hv,hgF⟩:=h.row.reads.some_ Qb;injection hv with e1 _ e3;subst e1 e3
  have hdx:rs.drop i=x::rs.drop (i+1):=by
   obtain ⟨hj,rfl⟩:=List.getElem?_eq_some_iff.1 hx;exact List.drop_eq_getElem_cons hj
  have hrec:=h.row.reads.rec_ (f:=RRec.cells) (QZ rs) hx
  refine Qf<|tN<|Qe<|Qp<|Qe ?_
  by_cases hsp_:dn=false
  ·refine QS (fun G=>Blk G g 53 #[.slice (some ⟨gF,oF,none⟩) rs.length c,.int .i64 D.limit,.int .i64 D.refused,.bool D.stops,.int .i64 D.left]∧Blk G g3 69 #[Qv n,Qv f.last,v]∧G.cell? ⟨gF,oF+i*3+0,none⟩=some (Qv x.n)) [0,1,2,3,4,5,6,7,8,9,10,11,12,13,14] [Y,Y,Y,Y,Y,Y,Y,Y,Y,Y,Y,Y,Y,Y,Y] Qo Qo (⟨hB.bel (JC X4),hB3.bel (JC X4),(h.bel (JC bw)).row.reads.rec_ (f:=RRec.cells) (QZ rs) hx 0 _ Z⟩) ?_;obtain ⟨w3,hw_,hb⟩:=QN w2;rw [← hw_];clear hw_;have hS:=hb;replace bw:=Ql bw hb;replace hB3:=hB3.bel hb;replace hR:=hR.bel hb;replace hB:=hB.bel hb;have zz3:=hb.size;clear hb
   refine oY Z (fun G U=>(Qd Z)) Z<|oY Z (fun G U=>(Jk Z)) Z<|oY Z (fun G U=>(Jf (c:=true) Z (by rw [hsp_]; rfl))) Z ?_
   refine Q4 Z Z Z Z (fun G U=>(Qd Z)) Z<|Q4 Z Z Z Z (fun G U=>(Qc Z)) Z<|Q4 Z Z Z Z (fun G U=>(Qk Jj Z)) Z<|Q4 Z Z Z Z (fun G U=>(Qi Z U.1 uz51 Z Z)) Z<|Q4 Z Z Z Z (fun G U=>(Qd Z)) Z<|Q4 Z Z Z Z (fun G U=>(QA Z Z uz51 siz69 Z Qb)) Z<|Q4 Z Z Z Z (fun G U=>(Qk Qdj Z)) Z<|Q4 Z Z Z Z (fun G U=>(JS Z uz9 Z U.2.2)) Z<|Q4 Z Z Z Z (fun G U=>(Qk Qdj Z)) Z<|Q4 Z Z Z Z (fun G U=>(Qi Z U.2.1 uz9 Z Z)) Z<|Q4 Z Z Z Z (fun G U=>(Qwj Z Z)) Z<|oY Z (fun G U=>(Qm Z Z)) Z<|oN<|nN<|Qx Z (fun h30=>?_) (fun h30=>?_)
   ·replace h30:=Qs h30
    refine Qa<|sm Z Z<|st (QE Z hB3 uz69 Z siz69) Z<|Zy Z uz51 inf69 Z Z QF QF Z (fun g33 w4 hR33 hg33 hb=>?_)
    replace bw:=Ql bw hb;replace hB3:=hB3.bel hb;replace hR:=hR.bel hb;replace hB:=hB.bel hb;have zz4:=hb.size;clear hb;have hl33:=hR33.blt QF;refine Z4 Z Z uz51 inf69 Z QF hR (hR33.reads.src uz51 (by intro u hu; exact ZV (rs:=[(⟨n,f,v⟩:RRec)]) (by intro q hq; rw [List.mem_singleton.1 hq]; exact h1) u (by simpa [RRec.cells,Value.cells] using hu))) (by simp only [maxLen]; omega) Qb Z (fun vo' w5 hR2 hC2 hv=>?_);have zz5:=hC2.size
    have hRn:Row w5 69 3 vo' (out++[(⟨n,f,v⟩:RRec)]).length ((out++[(⟨n,f,v⟩:RRec)]).flatMap RRec.cells):=by rw [List.flatMap_append,List.length_append]; simpa [RRec.cells,Value.cells] using hR2
    have hvn:∀ k,vo'.ownBlock=some k→w.heap.size≤k∧¬k=g3:=fun k hk=>by
     rcases hv with hv|hv
     ·exact hvo k (hv▸hk)
     ·rw [hv] at hk;injection hk with hk
      have:=hB3.lt
      omega
    have hbw':=KM bw hC2 (fun k hk=>(hvo k hk).1);replace hB3:=hB3.chg hC2 (fun e=>(hvo _ e).2 rfl);replace hB:=h.blk.bel hbw';clear bw hR2 hC2 hR hvo hv;have bw:=hbw';clear hbw';rw [hsp_] at hin
    have hin':=hin.first (r:=⟨n,f,v⟩) hdx (Qhc.1 (by rw [h30]; rfl))
    obtain ⟨out,hout⟩:∃ o,out++[(⟨n,f,v⟩:RRec)]=o:=⟨_,rfl⟩
    rw [hout] at hRn hin';clear hin hout hol;have hin:=hin';have hR:=hRn;have hvo:=hvn;have hol:=hin.len hi;clear hin' hRn hvn
    refine sa Z Z<|Wn<|tN<|Qw<|sa Z Z<|Wn<|tN<|Qw<|sm Z Z<|sm Z Z<|st (Qc Z) Z<|st (Qk Jj Z) Z<|st (Qi Z hB uz51 Z Z) Z<|sm Z Z<|st (QA Z Z uz51 siz69 Z Qb) Z ?_
    have hcnd:True:=trivial
    refine st (Jw (cs:=x.cells) Z uz69 Z siz69 ((h.bel bw).row.reads.rec_ (f:=RRec.cells) (QZ rs) hx)) Z<|Zy Z uz51 inf69 Z Z QF QF Z (fun g43 w6 hR43 hg43 hb=>?_)
    replace bw:=Ql bw hb;replace hB3:=hB3.bel hb;replace hR:=hR.bel hb;replace hB:=hB.bel hb;have zz6:=hb.size;clear hb;have hl43:=hR43.blt QF;refine Z4 Z Z uz51 inf69 Z QF hR (hR43.reads.src uz51 (by intro u hu; exact ZV (rs:=[x]) (by intro q hq; rw [List.mem_singleton.1 hq]; exact (h.ones x (List.mem_of_getElem? hx))) u (by simpa [RRec.cells,Value.cells] using hu))) (by simp only [maxLen]; omega) Qb Z (fun vo' w7 hR2 hC2 hv=>?_);have zz7:=hC2.size
    have hRn:Row w7 69 3 vo' (out++[x]).length ((out++[x]).flatMap RRec.cells):=by rw [List.flatMap_append,List.length_append]; simpa [RRec.cells,Value.cells] using hR2
    have hvn:∀ k,vo'.ownBlock=some k→w.heap.size≤k∧¬k=g3:=fun k hk=>by
     rcases hv with hv|hv
     ·exact hvo k (hv▸hk)
     ·rw [hv] at hk;injection hk with hk
      have:=hB3.lt
      omega
    have hbw':=KM bw hC2 (fun k hk=>(hvo k hk).1);replace hB3:=hB3.chg hC2 (fun e=>(hvo _ e).2 rfl);replace hB:=h.blk.bel hbw';clear bw hR2 hC2 hR hvo hv;have bw:=hbw';clear hbw';have hinn:=hin.next hdx hx (by first|(intro e; exact absurd e hsp_)|(intro e; cases e; done)|(intro _ e; have:=Qhc.2 e; rw [h30] at this; cases this))
    refine sa Z Z<|Wn<|bN<|tN<|Qw<|sm Z Z<|st (Qn Z Z Qb) Z<|sa Z Z<|Wn<|tN ⟨_,_,?_,⟨i+1,_,_,_,Z,Z,hRn,hvn,h.blk.bel bw,hB3,by omega,hinn,bw⟩,⟨Z,Z,Z,Z,Z,tvA⟩⟩
    omega
   ·replace h30:=Qs h30
    refine Qf<|tN<|Qw<|sm Z Z<|sm Z Z<|st (Qc Z) Z<|st (Qk Jj Z) Z<|st (Qi Z hB uz51 Z Z) Z<|sm Z Z<|st (QA Z Z uz51 siz69 Z Qb) Z ?_
    have hcnd:True:=trivial
    refine st (Jw (cs:=x.cells) Z uz69 Z siz69 ((h.bel bw).row.reads.rec_ (f:=RRec.cells) (QZ rs) hx)) Z<|Zy Z uz51 inf69 Z Z QF QF Z (fun g43 w8 hR43 hg43 hb=>?_)
    replace bw:=Ql bw hb;replace hB3:=hB3.bel hb;replace hR:=hR.bel hb;replace hB:=hB.bel hb;have zz8:=hb.size;clear hb;have hl43:=hR43.blt QF;refine Z4 Z Z uz51 inf69 Z QF hR (hR43.reads.src uz51 (by intro u hu; exact ZV (rs:=[x]) (by intro q hq; rw [List.mem_singleton.1 hq]; exact (h.ones x (List.mem_of_getElem? hx))) u (by simpa [RRec.cells,Value.cells] using hu))) (by simp only [maxLen]; omega) Qb Z (fun vo' w9 hR2 hC2 hv=>?_);have zz9:=hC2.size
    have hRn:Row w9 69 3 vo' (out++[x]).length ((out++[x]).flatMap RRec.cells):=by rw [List.flatMap_append,List.length_append]; simpa [RRec.cells,Value.cells] using hR2
    have hvn:∀ k,vo'.ownBlock=some k→w.heap.size≤k∧¬k=g3:=fun k hk=>by
     rcases hv with hv|hv
     ·exact hvo k (hv▸hk)
     ·rw [hv] at hk;injection hk with hk
      have:=hB3.lt
      omega
    have hbw':=KM bw hC2 (fun k hk=>(hvo k hk).1);replace hB3:=hB3.chg hC2 (fun e=>(hvo _ e).2 rfl);replace hB:=h.blk.bel hbw';clear bw hR2 hC2 hR hvo hv;have bw:=hbw';clear hbw';have hinn:=hin.next hdx hx (by first|(intro e; exact absurd e hsp_)|(intro e; cases e; done)|(intro _ e; have:=Qhc.2 e; rw [h30] at this; cases this))
    refine sa Z Z<|Wn<|bN<|tN<|Qw<|sm Z Z<|st (Qn Z Z Qb) Z<|sa Z Z<|Wn<|tN ⟨_,_,?_,⟨i+1,_,_,_,Z,Z,hRn,hvn,h.blk.bel bw,hB3,by omega,hinn,bw⟩,⟨Z,Z,Z,Z,Z,tvA⟩⟩
    omega
  ·refine QS (fun G=>Blk G g 53 #[.slice (some ⟨gF,oF,none⟩) rs.length c,.int .i64 D.limit,.int .i64 D.refused,.bool D.stops,.int .i64 D.left]∧Blk G g3 69 #[Qv n,Qv f.last,v]∧G.cell? ⟨gF,oF+i*3+0,none⟩=some (Qv x.n)) [0,1,2,3,4,5,6,7,8,9,10,11,12,13,14] [Y,Y,Y,Y,Y,Y,Y,Y,Y,Y,Y,Y,Y,Y,Y] Qo Qo (⟨hB.bel (JC X4),hB3.bel (JC X4),(h.bel (JC bw)).row.reads.rec_ (f:=RRec.cells) (QZ rs) hx 0 _ Z⟩) ?_;obtain ⟨w10,hw_,hb⟩:=QN w2;rw [← hw_];clear hw_;have hS:=hb;replace bw:=Ql bw hb;replace hB3:=hB3.bel hb;replace hR:=hR.bel hb;replace hB:=hB.bel hb;have zz10:=hb.size;clear hb
   refine oY Z (fun G U=>(Qd Z)) Z<|oY Z (fun G U=>(Jk Z)) Z<|oY Z (fun G U=>(Jf (c:=false) Z (by simpa using hsp_))) Z ?_
   refine JA Z Z Z Z (⟨hB,hB3,(h.bel bw).row.reads.rec_ (f:=RRec.cells) (QZ rs) hx 0 _ Z⟩) Z<|JA Z Z Z Z (⟨hB,hB3,(h.bel bw).row.reads.rec_ (f:=RRec.cells) (QZ rs) hx 0 _ Z⟩) Z<|JA Z Z Z Z (⟨hB,hB3,(h.bel bw).row.reads.rec_ (f:=RRec.cells) (QZ rs) hx 0 _ Z⟩) Z<|JA Z Z Z Z (⟨hB,hB3,(h.bel bw).row.reads.rec_ (f:=RRec.cells) (QZ rs) hx 0 _ Z⟩) Z<|JA Z Z Z Z (⟨hB,hB3,(h.bel bw).row.reads.rec_ (f:=RRec.cells) (QZ rs) hx 0 _ Z⟩) Z<|JA Z Z Z Z (⟨hB,hB3,(h.bel bw).row.reads.rec_ (f:=RRec.cells) (QZ rs) hx 0 _ Z⟩) Z<|JA Z Z Z Z (⟨hB,hB3,(h.bel bw).row.reads.rec_ (f:=RRec.cells) (QZ rs) hx 0 _ Z⟩) Z<|JA Z Z Z Z (⟨hB,hB3,(h.bel bw).row.reads.rec_ (f:=RRec.cells) (QZ rs) hx 0 _ Z⟩) Z<|JA Z Z Z Z (⟨hB,hB3,(h.bel bw).row.reads.rec_ (f:=RRec.cells) (QZ rs) hx 0 _ Z⟩) Z<|JA Z Z Z Z (⟨hB,hB3,(h.bel bw).row.reads.rec_ (f:=RRec.cells) (QZ rs) hx 0 _ Z⟩) Z<|JA Z Z Z Z (⟨hB,hB3,(h.bel bw).row.reads.rec_ (f:=RRec.cells) (QZ rs) hx 0 _ Z⟩) Z<|oY Z (fun G U=>(Qq Z Z)) Z<|oN<|nN<|QX Z (Z)<|Qf<|tN<|Qw<|sm Z Z<|sm Z Z<|st (Qc Z) Z<|st (Qk Jj Z) Z<|st (Qi Z hB uz51 Z Z) Z<|sm Z Z<|st (QA Z Z uz51 siz69 Z Qb) Z ?_
   have hcnd:True:=trivial
   refine st (Jw (cs:=x.cells) Z uz69 Z siz69 ((h.bel bw).row.reads.rec_ (f:=RRec.cells) (QZ rs) hx)) Z<|Zy Z uz51 inf69 Z Z QF QF Z (fun g43 w11 hR43 hg43 hb=>?_)
   replace bw:=Ql bw hb;replace hB3:=hB3.bel hb;replace hR:=hR.bel hb;replace hB:=hB.bel hb;have zz11:=hb.size;clear hb;have hl43:=hR43.blt QF;refine Z4 Z Z uz51 inf69 Z QF hR (hR43.reads.src uz51 (by intro u hu; exact ZV (rs:=[x]) (by intro q hq; rw [List.mem_singleton.1 hq]; exact (h.ones x (List.mem_of_getElem? hx))) u (by simpa [RRec.cells,Value.cells] using hu))) (by simp only [maxLen]; omega) Qb Z (fun vo' w12 hR2 hC2 hv=>?_);have zz12:=hC2.size
   have hRn:Row w12 69 3 vo' (out++[x]).length ((out++[x]).flatMap RRec.cells):=by rw [List.flatMap_append,List.length_append]; simpa [RRec.cells,Value.cells] using hR2
   have hvn:∀ k,vo'.ownBlock=some k→w.heap.size≤k∧¬k=g3:=fun k hk=>by
    rcases hv with hv|hv
    ·exact hvo k (hv▸hk)
    ·rw [hv] at hk;injection hk with hk
     have:=hB3.lt
     omega
   have hbw':=KM bw hC2 (fun k hk=>(hvo k hk).1);replace hB3:=hB3.chg hC2 (fun e=>(hvo _ e).2 rfl);replace hB:=h.blk.bel hbw';clear bw hR2 hC2 hR hvo hv;have bw:=hbw';clear hbw';have hinn:=hin.next hdx hx (by first|(intro e; exact absurd e hsp_)|(intro e; cases e; done)|(intro _ e; have:=Qhc.2 e; rw [h30] at this; cases this))
   refine sa Z Z<|Wn<|bN<|tN<|Qw<|sm Z Z<|st (Qn Z Z Qb) Z<|sa Z Z<|Wn<|tN ⟨_,_,?_,⟨i+1,_,_,_,Z,Z,hRn,hvn,h.blk.bel bw,hB3,by omega,hinn,bw⟩,⟨Z,Z,Z,Z,Z,tvA⟩⟩
   omega
 ·replace h13:=Qs h13
  refine QQ<|tE<|tE<|bH<|tN<|Qe<|Qa<|sm Z Z<|st (Jk Z) Z<|Wn<|tN<|Qx Z (fun h46=>?_) (fun h46=>?_)
  ·replace h46:=Qs h46
   refine Qw<|sm Z Z<|st (QE Z hB3 uz69 Z siz69) Z<|Zy Z uz51 inf69 Z Z QF QF Z (fun g49 w13 hR49 hg49 hb=>?_)
   replace bw:=Ql bw hb;replace hB3:=hB3.bel hb;replace hR:=hR.bel hb;replace hB:=hB.bel hb;have zz13:=hb.size;clear hb;have hl49:=hR49.blt QF;refine Z4 Z Z uz51 inf69 Z QF hR (hR49.reads.src uz51 (by intro u hu; exact ZV (rs:=[(⟨n,f,v⟩:RRec)]) (by intro q hq; rw [List.mem_singleton.1 hq]; exact h1) u (by simpa [RRec.cells,Value.cells] using hu))) (by simp only [maxLen]; omega) Qb Z (fun vo' w14 hR2 hC2 hv=>?_);have zz14:=hC2.size
   have hRn:Row w14 69 3 vo' (out++[(⟨n,f,v⟩:RRec)]).length ((out++[(⟨n,f,v⟩:RRec)]).flatMap RRec.cells):=by rw [List.flatMap_append,List.length_append]; simpa [RRec.cells,Value.cells] using hR2
   have hvn:∀ k,vo'.ownBlock=some k→w.heap.size≤k∧¬k=g3:=fun k hk=>by
    rcases hv with hv|hv
    ·exact hvo k (hv▸hk)
    ·rw [hv] at hk;injection hk with hk
     have:=hB3.lt
     omega
   have hbw':=KM bw hC2 (fun k hk=>(hvo k hk).1);replace hB3:=hB3.chg hC2 (fun e=>(hvo _ e).2 rfl);replace hB:=h.blk.bel hbw';clear bw hR2 hC2 hR hvo hv;have bw:=hbw';clear hbw'
   have hfin:insR rs ⟨n,f,v⟩=out++[(⟨n,f,v⟩:RRec)]:=by
    rw [h46] at hin;obtain ⟨e1,e2⟩:=hin
    obtain rfl:i=rs.length:=by omega
    rw [e2,e1,List.drop_of_length_le Qb]
    rfl
   rw [← hfin] at hRn;have hR:=hRn;have hvo:=hvn;clear hRn hvn
   refine sa Z Z<|Wn<|tN<|Qw<|sm Z Z<|sm Z Z<|st (Qc Z) Z<|st (Qk Jj Z) Z<|KL Z Z hB siz51 hR.one1 Q0 (fun w15 bB cC=>?_)
   have hcw:=(Chg.of_below bw (fun k=>k=g)).trans cC (fun i _ h=>h);have hR':=hR.chg cC (fun k hk=>by have:=(hvo k hk).1; show ¬k=g; omega);refine Wn ?_;exact (r0 Z ⟨Z,_,bB,hR',fun k hk=>(hvo k hk).1,hcw⟩).2
  ·replace h46:=Qs h46
   have hfin:insR rs ⟨n,f,v⟩=out:=by
    rw [h46] at hin;have hin':insR rs ⟨n,f,v⟩=out++rs.drop i:=hin
    obtain rfl:i=rs.length:=by omega
    rw [hin',List.drop_of_length_le Qb,List.append_nil]
   rw [← hfin] at hR
   refine Qf<|tN<|Qw<|sm Z Z<|sm Z Z<|st (Qc Z) Z<|st (Qk Jj Z) Z<|KL Z Z hB siz51 hR.one1 Q0 (fun w16 bB cC=>?_)
   have hcw:=(Chg.of_below bw (fun k=>k=g)).trans cC (fun i _ h=>h);have hR':=hR.chg cC (fun k hk=>by have:=(hvo k hk).1; show ¬k=g; omega);refine Wn ?_;exact (r0 Z ⟨Z,_,bB,hR',fun k hk=>(hvo k hk).1,hcw⟩).2
theorem Qbi {a b:List UInt8} {v:Value} (h:v.oneCell'=true):(#[Qv a,Qv b,v].toList.all (fun x=>x.oneCell'))=true:=by
 show (true && (true && (v.oneCell' && true)))=true
 rw [h]
 rfl
theorem XO (g:Nat) (D:DiskD) (vF:Value) (rs:List RRec) (i:Nat) (r:RRec) (w:World) (h:RIn w g D vF rs) (hr:rs[i]?=some r) (hrl:rs.length≤1000000) :
  Calls Tryz.prog 115 #[.pointer (some ⟨g,0,none⟩),.int .i64 i] w fun e w'=>e=.returned (.agg r.cells.toArray)∧∃ vo,Blk w' g 53 #[vo,.int .i64 D.limit,.int .i64 D.refused,.bool D.stops,.int .i64 D.left] ∧
   Row w' 69 3 vo (Zl rs i).length ((Zl rs i).flatMap RRec.cells)∧(∀ k,vo.ownBlock=some k→w.heap.size≤k)∧Chg (fun k=>k=g) w w':=by
 have hB:=h.blk;have hlt:=hB.lt;have hRF:=h.row;have hi:=(List.getElem?_eq_some_iff.1 hr).1;obtain ⟨a,c,rfl,hc1,hc2⟩:=h.row.shape;obtain ⟨gF,oF,c',hv,hgF⟩:=h.row.reads.some_ Qb;injection hv with e1 _ e3;subst e1 e3;have hnn:=h.row.nle;have h1r:=h.ones r (List.mem_of_getElem? hr);have hrows:=h.row.lt;obtain ⟨n,f,v⟩:=r
 refine Qj (args:=[.pointer (some ⟨g,0,none⟩),.int .i64 i]) 35 fz115 Z Z Z<|Qt [(0,.pointer (some ⟨g,0,none⟩)),(1,.int .i64 i)] ?_ ⟨Z,Z,tvA⟩
 have hcw:=Chg.refl (fun k=>k=g) w
 refine Qa<|Jm inf69 Z (fun g4 w1 hB4 hg4 hb hl4=>?_)
 replace hcw:=hcw.then_below hb;replace hB:=hB.bel hb;replace hRF:=hRF.bel hb;have zz1:=hb.size;clear hb
 refine Wn<|tN<|Qa<|sm Z Z<|st (Qc Z) Z<|st (Qk Jj Z) Z<|st (Qi Z hB uz51 Z Z) Z<|sm Z Z<|st (QA Z Z uz51 siz69 Z Qb) Z<|st (Jw (cs:=RRec.cells ⟨n,f,v⟩) Z uz69 Z siz69 (hRF.reads.rec_ (f:=RRec.cells) (QZ rs) hr)) Z<|Jm inf69 Z (fun g5 w2 hB5 hg5 hb hl5=>?_)
 replace hcw:=hcw.then_below hb;replace hB:=hB.bel hb;replace hRF:=hRF.bel hb;replace hB4:=hB4.bel hb;have zz2:=hb.size;clear hb
 have hne5:∀ k,(Value.slice (some ⟨gF,oF,none⟩) rs.length c).ownBlock=some k→¬k=g5:=fun k hk=>by have:=hrows k hk; omega
 refine QY Z Z hB5 siz69 Z (Qbi h1r) (fun w3 bB cC=>?_);replace hB5:=bB;clear bB;replace hB:=hB.chg cC Z5;replace hRF:=hRF.chg cC Z5;replace hB4:=hB4.chg cC Z5;replace hcw:=hcw.next cC KO;have zz3:=cC.size;clear cC
 refine Wn<|tN<|Qa<|sa Z Z<|Wn<|tN<|Qa<|sm Z Z<|sm Z Z<|st (Qc Z) Z<|st (Qk Jj Z) Z<|st (Qi Z hB uz51 Z Z) Z<|sm Z Z<|st (X.toL (j:=i) Z Z uz51 siz69 Z Qb) Z<|Z4 Z Z uz51 inf69 Z QF (Row.nil _ _ _) ((hRF.cut Z 0 i Qb Qb).reads.src uz51 (by rw [Nat.zero_mul,List.drop_zero,flat_take3]; exact ZV (fun q hq=>h.ones q (List.mem_of_mem_take hq)))) (by simp only [maxLen]; omega) Qb Z (fun v1 w4 hR2 hC2 hv=>?_)
 have zz4:=hC2.size
 have hv1:∀ k,v1.ownBlock=some k→w.heap.size≤k∧¬k=g4∧¬k=g5:=fun k hk=>by
  rcases hv with hv|hv
  ·have hv0:(Value.slice none 0 0).ownBlock=none:=rfl; rw [hv,hv0] at hk; cases hk
  ·rw [hv] at hk;injection hk with hk
   have:=hB4.lt
   have:=hB5.lt
   omega
 replace hB4:=hB4.chg hC2 (fun e=>by simp [Value.ownBlock] at e);replace hB5:=hB5.chg hC2 (fun e=>by simp [Value.ownBlock] at e);replace hB:=hB.chg hC2 (fun e=>by simp [Value.ownBlock] at e);replace hRF:=hRF.chg hC2 (fun k _ e=>by simp [Value.ownBlock] at e);replace hcw:=hcw.next hC2 (fun k e=>by simp [Value.ownBlock] at e);clear hC2 hv
 have hR1:Row w4 69 3 v1 i ((rs.take i).flatMap RRec.cells):=by
  rw [Nat.zero_mul,List.drop_zero,flat_take3] at hR2
  simpa using hR2
 clear hR2
 refine sa Z Z<|Wn<|tN<|Qa<|sm Z Z<|sm Z Z<|sm Z Z<|st (Qc Z) Z<|st (Qk Jj Z) Z<|st (Qi Z hB uz51 Z Z) Z<|sm Z Z<|st (Qn Z Z Qb) Z<|st (Qqg (i:=i+1) Z Z uz51 siz69 Qb Qb) Z<|Z4 Z Z uz51 inf69 Z QF hR1 ((hRF.cut Z (i+1) rs.length Qb Qb).reads.src uz51 (by rw [flat_take3,List.take_length,flat_drop3]; exact ZV (fun q hq=>h.ones q (List.mem_of_mem_drop hq)))) (by simp only [maxLen]; omega) Qb Z (fun v2 w5 hR2 hC2 hv=>?_)
 have zz5:=hC2.size
 have hv2:∀ k,v2.ownBlock=some k→w.heap.size≤k∧¬k=g4∧¬k=g5:=fun k hk=>by
  rcases hv with hv|hv
  ·exact hv1 k (hv▸hk)
  ·rw [hv] at hk;injection hk with hk
   have:=hB4.lt
   have:=hB5.lt
   omega
 replace hB4:=hB4.chg hC2 (fun e=>(hv1 _ e).2.1 rfl);replace hB5:=hB5.chg hC2 (fun e=>(hv1 _ e).2.2 rfl);replace hB:=hB.chg hC2 (fun e=>by have:=(hv1 _ e).1; omega);replace hRF:=hRF.chg hC2 (fun k hk e=>by have:=(hv1 _ e).1; have:=hrows k hk; omega);replace hcw:=hcw.next hC2 (fun k e=>.inr (hv1 _ e).1);clear hC2 hv
 have hR3:Row w5 69 3 v2 (Zl rs i).length ((Zl rs i).flatMap RRec.cells):=by
  rw [flat_take3,List.take_length,flat_drop3] at hR2
  have hl:(Zl rs i).length=i+(rs.length-(i+1)):=by unfold Zl; rw [List.length_append,List.length_take,List.length_drop]; omega
  rw [hl];unfold Zl;rw [List.flatMap_append];exact hR2
 clear hR2 hR1
 have hne6:∀ k,v2.ownBlock=some k→¬k=g:=fun k hk=>by have:=(hv2 k hk).1; omega
 have hne7:∀ k,v2.ownBlock=some k→¬k=g4:=fun k hk=>(hv2 k hk).2.1
 obtain ⟨a2,c2,rfl,_,_⟩:=hR3.shape
 refine st (Qc Z) Z<|st (Qk Jj Z) Z<|KL Z Z hB siz51 Z (by first|decide|simp) (fun w6 bB cC=>?_)
 replace hB:=bB;clear bB;replace hB4:=hB4.chg cC Z5;replace hB5:=hB5.chg cC Z5;replace hR3:=hR3.chg cC Z5;replace hcw:=hcw.next cC KO;have zz6:=cC.size;clear cC
 refine Wn<|tN<|Qa<|st (QE Z hB5 uz69 Z siz69) Z<|QY Z Z hB4 siz69 Z (Qbi h1r) (fun w7 bB cC=>?_)
 replace hB4:=bB;clear bB;replace hB:=hB.chg cC Z5;replace hB5:=hB5.chg cC Z5;replace hR3:=hR3.chg cC Z5;replace hcw:=hcw.next cC KO;have zz7:=cC.size;clear cC
 refine Wn<|tN<|Qg ?_
 exact (rC Z Z hB4 uz69 Z siz69 ⟨Z,_,hB,hR3,fun k hk=>(hv2 k hk).1,hcw⟩).1
end
section
open Go.RowKit
theorem sput_set:∀ {l:List (Key×FileD)} {i:Nat} {n:Key} {f f':FileD},Rising l→l[i]?=some (n,f)→sput l n f'=l.set i (n,f')
 | [],_,_,_,_,_,h=>by simp at h
 | (a,u)::l,0,n,f,f',_,h=>by
  simp only [List.getElem?_cons_zero,Option.some.injEq,Prod.mk.injEq] at h;rw [sput,if_pos h.1.symm,List.set_cons_zero,h.1]
 | (a,u)::l,i+1,n,f,f',hs,h=>by
  rw [List.getElem?_cons_succ] at h;have h1:=List.pairwise_cons.1 hs;have hlt:=h1.1 _ (List.mem_of_getElem? h);rw [sput,if_neg (fun e=>by rw [e] at hlt; exact Jt _ hlt),if_neg (fun e=>Jt _ (JL e hlt)),List.set_cons_succ,sput_set h1.2 h]
theorem Qes {l:List (Key×FileD)} {n:Key} {f:FileD} (hs:Rising l) (h:mget l n=some f) (f':FileD):sput (mdel l n) n f'=sput l n f':=by
 induction l with
 | nil=>simp [mget] at h
 | cons p l ih =>
  obtain ⟨a,u⟩:=p;have h1:=List.pairwise_cons.1 hs;unfold mget at h
  by_cases e:n=a
  ·subst e;rw [mdel,if_pos rfl,sput,if_pos rfl]
   cases l with
   | nil=>rfl
   | cons q l =>
    obtain ⟨b,v⟩:=q;have hlt:=h1.1 (b,v) (List.mem_cons_self ..);rw [sput,if_neg (fun e=>by rw [e] at hlt; exact Jt _ hlt),if_pos hlt]
  ·rw [if_neg e] at h
   have:=ih h1.2 h
   have hlt:a<n:=h1.1 _ (Qkh h);rw [mdel,if_neg e,sput,if_neg e,if_neg (fun k=>Jt _ (JL k hlt)),this,sput,if_neg e,if_neg (fun k=>Jt _ (JL k hlt))]
theorem Qra {l:List (Key×FileD)} {n:Key} {f:FileD} (hs:Rising l) (h:mget l n=some f):sput l n f=l:=by
 induction l with
 | nil=>simp [mget] at h
 | cons p l ih =>
  obtain ⟨a,u⟩:=p;have h1:=List.pairwise_cons.1 hs;unfold mget at h
  by_cases e:n=a
  ·subst e;rw [if_pos rfl] at h;injection h with h;rw [sput,if_pos rfl,h]
  ·rw [if_neg e] at h;have hlt:a<n:=h1.1 _ (Qkh h);rw [sput,if_neg e,if_neg (fun k=>Jt _ (JL k hlt)),ih h1.2 h]
theorem Ky (rs:List RRec) (n:Key):∃ o,PlaceIs rs n o:=by
 induction rs with
 | nil=>exact ⟨none,fun r hr=>by cases hr⟩
 | cons a l ih =>
  by_cases e:a.n=n
  ·exact ⟨some 0,⟨a,Z,e⟩,fun j s hj=>by omega⟩
  ·obtain ⟨o,ho⟩:=ih
   cases o with
   | none =>
    refine ⟨none,fun r hr=>?_⟩
    rcases List.mem_cons.1 hr with h|h
    ·rw [h]; exact e
    ·exact ho r h
   | some i =>
    obtain ⟨⟨r,h1,h2⟩,h3⟩:=ho;refine ⟨some (i+1),⟨r,h1,h2⟩,fun j s hj hs=>?_⟩
    cases j with
    | zero =>
     simp only [List.getElem?_cons_zero,Option.some.injEq] at hs;rw [← hs]; exact e
    | succ j=>exact h3 j s Qb (by rwa [List.getElem?_cons_succ] at hs)
theorem RIn.get_none {w:World} {g:Nat} {D:DiskD} {vF:Value} {rs:List RRec} {n:Key} (h:RIn w g D vF rs) (ho:PlaceIs rs n none):mget D.files n=none:=by
 rw [← h.files,JZ];intro hk;obtain ⟨p,hp,rfl⟩:=List.mem_map.1 hk;obtain ⟨r,hr,rfl⟩:=List.mem_map.1 hp;exact ho r hr Z
theorem RIn.get_some {w:World} {g:Nat} {D:DiskD} {vF:Value} {rs:List RRec} {n:Key} {i:Nat} (h:RIn w g D vF rs) (hok:DOk D) (ho:PlaceIs rs n (some i)):∃ r,rs[i]?=some r∧r.n=n∧mget D.files n=some r.f∧FOk r.f:=by
 obtain ⟨⟨r,h1,h2⟩,_⟩:=ho;obtain ⟨hf,hg⟩:=h.fok hok (List.mem_of_getElem? h1);exact ⟨r,h1,h2,by rw [← h2]; exact hg,hf⟩
def RApart (rs:List RRec):Prop:=rs.Pairwise fun r s=>∀ k,r.v.ownBlock=some k→¬s.v.ownBlock=some k
structure RHas (g:Nat) (vF:Value) (rs:List RRec) (S:Nat→Prop):Prop where
  apart:RApart rs
  g:S g
  vF:∀ k,vF.ownBlock=some k→S k
  v:∀ r∈rs,∀ k,r.v.ownBlock=some k→S k
def RDisk (w:World) (g:Nat) (D:DiskD) (S:Nat→Prop):Prop:=∃ vF rs,RIn w g D vF rs∧RHas g vF rs S
theorem RDisk.bel {w w':World} {g:Nat} {D:DiskD} {S:Nat→Prop} (h:RDisk w g D S) (hb:Below w.heap.size w w'):RDisk w' g D S:=by
 obtain ⟨vF,rs,h1,h2⟩:=h;exact ⟨vF,rs,h1.bel hb,h2⟩
def RPost (g:Nat) (S:Nat→Prop) (w:World) (x:Int×DiskD) (e:Ending) (w':World):Prop:=e=.returned (.int .i64 x.1)∧RDisk w' g x.2 (Ext S w w')∧Chg S w w'
theorem RPost.same {w w':World} {g:Nat} {D:DiskD} {S:Nat→Prop} {x:Int×DiskD} (h:RDisk w g D S) (hb:Below w.heap.size w w') {i:Int} (he:x=(i,D)):RPost g S w x (.returned (.int .i64 i)) w':=by
 obtain ⟨vF,rs,h1,h2⟩:=h;subst he;exact ⟨Z,⟨vF,rs,h1.bel hb,h2.apart,.inl h2.g,fun k hk=>.inl (h2.vF k hk),fun r hr k hk=>.inl (h2.v r hr k hk)⟩,Chg.of_below hb S⟩
theorem RPost.of {w w':World} {g:Nat} {S:Nat→Prop} {D:DiskD} {vF:Value} {rs:List RRec} {x:Int×DiskD} (h:RIn w' g D vF rs) (hh:RHas g vF rs (Ext S w w')) (hC:Chg S w w') {i:Int} (he:x=(i,D)):RPost g S w x (.returned (.int .i64 i)) w':=by
 subst he;exact ⟨Z,⟨vF,rs,h,hh⟩,hC⟩
theorem RHas.ext {w w':World} {g:Nat} {vF:Value} {rs:List RRec} {S:Nat→Prop} (h:RHas g vF rs S):RHas g vF rs (Ext S w w'):=⟨h.apart,.inl h.g,fun k hk=>.inl (h.vF k hk),fun r hr k hk=>.inl (h.v r hr k hk)⟩
theorem RIn.rows_chg {w w':World} {g:Nat} {D:DiskD} {vF:Value} {rs:List RRec} (h:RIn w g D vF rs) (hC:Chg (fun k=>k=g) w w'):∀ r∈rs,Row w' 119 2 r.v r.f.pend.length (r.f.pend.flatMap QR):=fun r hr=>(h.rows r hr).chg hC ((h.rows r hr).ne2 h.blk QF)
theorem RIn.put {w w':World} {g:Nat} {D:DiskD} {vF vo:Value} {rs:List RRec} {r:RRec} (h:RIn w g D vF rs) (hr:Row w 119 2 r.v r.f.pend.length (r.f.pend.flatMap QR)) (hn:∀ a∈rs,a.n≠r.n)
  (hB:Blk w' g 53 #[vo,.int .i64 D.limit,.int .i64 D.refused,.bool D.stops,.int .i64 D.left]) (hR:Row w' 69 3 vo (insR rs r).length ((insR rs r).flatMap RRec.cells)) (hC:Chg (fun k=>k=g) w w') (u:Int) :
  RIn w' g { D with files:=sput D.files r.n r.f,used:=u } vo (insR rs r) :=
 ⟨hB,hR,by rw [Qvd hn,h.files],fun q hq=>by
  rcases Xx hq with rfl|hq
  ·exact hr.chg hC<|hr.ne2 h.blk QF
  ·exact h.rows_chg hC q hq⟩
theorem Vq {rs:List RRec} {r:RRec} (h:RApart rs) (hr:∀ a∈rs,∀ k,a.v.ownBlock=some k→¬r.v.ownBlock=some k):RApart (insR rs r):=by
 induction rs with
 | nil=>exact List.pairwise_singleton _ _
 | cons a l ih =>
  have h1:=List.pairwise_cons.1 h;unfold insR
  split
  ·exact List.pairwise_cons.2 ⟨fun b hb k hk e=>hr b hb k e hk,h⟩
  ·refine List.pairwise_cons.2 ⟨fun b hb=>?_,ih h1.2 (fun b hb=>hr b (List.mem_cons_of_mem _ hb))⟩
   rcases Xx hb with rfl|hb
   ·exact hr a<|List.mem_cons_self ..
   ·exact h1.1 b hb
theorem RIn.del {w w':World} {g:Nat} {D:DiskD} {vF vo:Value} {rs:List RRec} {r:RRec} {i:Nat} (h:RIn w g D vF rs) (hr:rs[i]?=some r) (hn:∀ j s,j<i→rs[j]?=some s→s.n≠r.n)
  (hB:Blk w' g 53 #[vo,.int .i64 D.limit,.int .i64 D.refused,.bool D.stops,.int .i64 D.left]) (hR:Row w' 69 3 vo (Zl rs i).length ((Zl rs i).flatMap RRec.cells)) (hC:Chg (fun k=>k=g) w w') (u:Int) :
  RIn w' g { D with files:=mdel D.files r.n,used:=u } vo (Zl rs i) :=
 ⟨hB,hR,by rw [delR_map hr hn,h.files],fun q hq=>h.rows_chg hC q (by
  rcases List.mem_append.1 hq with hq|hq
  ·exact List.mem_of_mem_take hq
  ·exact List.mem_of_mem_drop hq)⟩
theorem ZK {rs:List RRec} {i:Nat} {q:RRec} (h:q∈Zl rs i):q∈rs:=by
 rcases List.mem_append.1 h with hq|hq
 ·exact List.mem_of_mem_take hq
 ·exact List.mem_of_mem_drop hq
theorem Yn (rs:List RRec) (i:Nat):(Zl rs i).Sublist rs:=by
 unfold Zl;have h:=(List.Sublist.refl (rs.take i)).append (List.drop_sublist_drop_left rs (Nat.le_succ i))
 rwa [List.take_append_drop] at h
end
end Go.Proofs.YtgiccohjijhfkaaGreatDoor
