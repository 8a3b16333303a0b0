/- Part 5. -/
import Derived.Shelf.SlIter.Sorted
import Derived.Shelf.SlIter.Keys
import Derived.Shelf.SortM.Plain
import Derived.Shelf.SortM.SortNone
import Derived.Test.YtgiccohjijhfkaaGreatDoorRows
import Derived.ProofKit
import Derived.OpenShut
import Derived.Deep.DeepHandedRow
import Derived.Lib.LaidTab
import Derived.ShutString
import Derived.ChangeOld
import Derived.SliceStrings
import Derived.Deep.Slices
import Derived.Lib.SmallJoins
import Derived.Test.YtgiccohjijhfkaaGreatDoorPackPlaysP4
set_option maxRecDepth 100000
set_option maxHeartbeats 4000000
namespace Go.Proofs.YtgiccohjijhfkaaGreatDoor
section
open Go.RowKit
theorem Chg.g {S:Nat→Prop} {w w':World} {g:Nat} (h:Chg (fun k=>k=g) w w') (hg:S g):Chg S w w':=h.mono (fun k _ hk=>by rw [hk]; exact hg)
theorem U2 (g:Nat) (D:DiskD) (S:Nat→Prop) (n:Key) (d:List UInt8) (w:World) (h:DiskAt w g D S) (hok:DOk D) (hbud:DBud D) (hd:d.length≤1099511627776) :
  Calls Tryz.prog 26 #[.pointer (some ⟨g,0,none⟩),Qv n,Qv d] w (DPost g S w (QI D n d)):=by
 have h0:=h;obtain ⟨b,rs,h⟩:=h
 by_cases hl:D.stops=true∧D.left=0
 ·skip
  refine Qj (args:=[.pointer (some ⟨g,0,none⟩),Qv n,Qv d]) 33 fz26 Z Z Z<|Qt [(0,.pointer (some ⟨g,0,none⟩)),(1,Qv n),(2,Qv d)] ?_ ⟨Z,Z,Z,tvA⟩
  have bw:=Below.refl w.heap.size w
  refine Qa<|sa Z Z<|Wn<|tN<|Qe<|Qa<|sm Z Z<|sc _ fz72 Z Qo Z Z (Q3 (YV g b D _ (h.bel bw).blk hl) fun w1 hb=>?_)
  replace bw:=Ql bw hb;have zz1:=hb.size;clear hb
  refine sa Z Z<|Wn<|tN<|Qa<|sm Z Z<|st (QC Z Z) Z<|Wn<|tN<|QO Z (Z)<|Qa<|sm Z Z<|sa Z Z<|Wn<|tN<|Qg<|tR ?_
  exact (rT Z Z (DPost.same h0 bw (ZY hl _))).1
 have hok':=Kt hok hl;have hbud':=Qby hbud
 cases hr:mget rs n with
 | none =>
  have hf:mget D.files n=none:=by rw [h.files,hr]; rfl
  refine Qj (args:=[.pointer (some ⟨g,0,none⟩),Qv n,Qv d]) 33 fz26 Z Z Z<|Qt [(0,.pointer (some ⟨g,0,none⟩)),(1,Qv n),(2,Qv d)] ?_ ⟨Z,Z,Z,tvA⟩
  refine Qa<|sa Z Z<|Wn<|tN<|Qe<|Qa<|sm Z Z<|sc _ fz72 Z Qo Z Z<|(JW g b D rs S _ h hok hl).mono ?_
  rintro e_ w1 ⟨rfl,h1,hC1⟩
  refine cR<|sa Z Z<|Wn<|tN<|Qa<|sm Z Z<|st (QC Z Z) Z<|Wn<|tN<|QX Z (Z)<|Qf<|tN<|Qa<|sm Z Z<|sm Z Z<|sc _ fz58 Z Qo Z Z<|(K0 g b _ rs S n _ h1 hr).mono ?_
  rintro e_ w2 ⟨rfl,hb2⟩
  refine cR<|sm Z Z<|st (Qu Z Z) Z<|st (Qu Z Z) Z<|sa Z Z<|sa Z Z<|Wn<|tN<|Qe<|Qa<|sm Z Z<|st (QC Z Z) Z<|Wn<|tN<|QO Z (Z)<|Qa<|sm Z Z<|sa Z Z<|Wn<|tN<|Qg<|tR ?_
  exact (rT Z Z (DPost.of (h1.bel hb2) ((hC1.g h.inS.1).then_below hb2) ((Q6 hl _).trans (Jd (Jy hf) _)))).1
 | some r =>
  have hf:mget D.files n=some r.f:=by rw [h.files,hr]; rfl
  have hp:=(hbud'.pend n r.f (Jy hf)).2
  refine Qj (args:=[.pointer (some ⟨g,0,none⟩),Qv n,Qv d]) 33 fz26 Z Z Z<|Qt [(0,.pointer (some ⟨g,0,none⟩)),(1,Qv n),(2,Qv d)] ?_ ⟨Z,Z,Z,tvA⟩
  refine Qa<|sa Z Z<|Wn<|tN<|Qe<|Qa<|sm Z Z<|sc _ fz72 Z Qo Z Z<|(JW g b D rs S _ h hok hl).mono ?_
  rintro e_ w1 ⟨rfl,h1,hC1⟩
  refine cR<|sa Z Z<|Wn<|tN<|Qa<|sm Z Z<|st (QC Z Z) Z<|Wn<|tN<|QX Z (Z)<|Qf<|tN<|Qa<|sm Z Z<|sm Z Z<|sc _ fz58 Z Qo Z Z<|(Kn g b _ rs S n r _ h1 hr).mono ?_
  rintro e_ w2 ⟨rfl,hb2⟩;refine cR ?_;have h2:=h1.bel hb2;have hF:=(h2.at_ n r hr).blk;obtain ⟨a,c,hvn,_⟩:=(h2.at_ n r hr).now.shape;rw [hvn] at hF
  refine sm Z Z<|st (Qu Z Z) Z<|st (Qu Z Z) Z<|sa Z Z<|sa Z Z<|Wn<|tN<|Qe<|Qa<|sm Z Z<|st (QC Z Z) Z<|Wn<|tN<|QX Z (Z)<|Qf<|tN<|Qa<|sm Z Z<|sm Z Z<|sm Z Z<|st (Qc Z) Z<|st (Qk Zr Z) Z<|st (Qi Z hF uz114 Z Z) Z<|st (QT Z Z uz114) Z<|sm Z Z<|sc _ Tryz.func74 Z Qo Z Z<|(put_any g b _ rs S n r _ d _ h2 hok' hr (Nat.le_refl _) hd hp hbud'.ref).mono ?_
  rintro e_ w3 ⟨rfl,hD,hC3⟩
  refine cR<|sa Z Z<|Wn<|tN<|Qg ?_
  exact (rT Z Z (DPost.up ((hC1.g h.inS.1).then_below hb2) hD hC3 ((Q6 hl _).trans (QW (Jy hf) _)))).1
theorem DiskIn.lasts {w w':World} {g b:Nat} {D:DiskD} {rs:List (Key×FRec)} {S:Nat→Prop} {n:Key} {r:FRec} {vl':Value} (h:DiskIn w g b D rs S) (hr:mget rs n=some r) (hs:Rising D.files)
  (hB:Blk w' r.blk 117 #[vl',r.vn,.slice none 0 0]) (hL:Row w' 5 1 vl' r.f.now.length (r.f.now.map bv)) (hN:Row w' 5 1 r.vn r.f.now.length (r.f.now.map bv)) (hO:∀ k,vl'.ownBlock=some k→w.heap.size≤k) (hC:Chg (fun k=>k=r.blk) w w') :
  DiskIn w' g b { D with files:=sput D.files n (KY r.f) } (mput rs n ⟨r.blk,vl',r.vn,.slice none 0 0,KY r.f⟩) (Ext S w w'):=by
 refine h.file hr (hC.mono (fun k _ hk=>.inr (.inl hk))) (h.blk.chg hC (fun e=>(h.ne hr).1 (.inl e))) (fun m=>Zv hs n _ m) ⟨hB,hL,hN,Row.nil _ _ _,fun k hk hk2=>?_⟩ Z ?_
 ·have:=(h.at_ n r hr).lt (.inr (.inr (.inl hk2)))
  have:=hO k hk
  omega
 ·rintro k (e|e|e|e)
  ·exact .inl<|.inl e
  ·exact .inr<|hO k e
  ·exact .inl<|.inr<|.inr<|.inl e
  ·simp [Value.ownBlock] at e
theorem Qlt (g:Nat) (D:DiskD) (S:Nat→Prop) (n:Key) (w:World) (h:DiskAt w g D S) (hok:DOk D) :
  Calls Tryz.prog 93 #[.pointer (some ⟨g,0,none⟩),Qv n] w (DPost g S w (Ku D n)):=by
 have h0:=h;obtain ⟨b,rs,h⟩:=h
 by_cases hl:D.stops=true∧D.left=0
 ·skip
  refine Qj (args:=[.pointer (some ⟨g,0,none⟩),Qv n]) 24 fz93 Z Z Z<|Qt [(0,.pointer (some ⟨g,0,none⟩)),(1,Qv n)] ?_ ⟨Z,Z,tvA⟩
  have bw:=Below.refl w.heap.size w
  refine Qa<|sa Z Z<|Wn<|tN<|Qe<|Qa<|sm Z Z<|sc _ fz72 Z Qo Z Z (Q3 (YV g b D _ (h.bel bw).blk hl) fun w1 hb=>?_)
  replace bw:=Ql bw hb;have zz1:=hb.size;clear hb
  refine sa Z Z<|Wn<|tN<|Qa<|sm Z Z<|st (QC Z Z) Z<|Wn<|tN<|QO Z (Z)<|Qa<|sm Z Z<|sa Z Z<|Wn<|tN<|Qg<|tR ?_
  exact (rT Z Z (DPost.same h0 bw (ZY hl _))).1
 have hok':=Kt hok hl
 cases hr:mget rs n with
 | none =>
  have hf:mget D.files n=none:=by rw [h.files,hr]; rfl
  refine Qj (args:=[.pointer (some ⟨g,0,none⟩),Qv n]) 24 fz93 Z Z Z<|Qt [(0,.pointer (some ⟨g,0,none⟩)),(1,Qv n)] ?_ ⟨Z,Z,tvA⟩
  refine Qa<|sa Z Z<|Wn<|tN<|Qe<|Qa<|sm Z Z<|sc _ fz72 Z Qo Z Z<|(JW g b D rs S _ h hok hl).mono ?_
  rintro e_ w1 ⟨rfl,h1,hC1⟩
  refine cR<|sa Z Z<|Wn<|tN<|Qa<|sm Z Z<|st (QC Z Z) Z<|Wn<|tN<|QX Z (Z)<|Qf<|tN<|Qa<|sm Z Z<|sm Z Z<|sc _ fz58 Z Qo Z Z<|(K0 g b _ rs S n _ h1 hr).mono ?_
  rintro e_ w2 ⟨rfl,hb2⟩
  refine cR<|sm Z Z<|st (Qu Z Z) Z<|st (Qu Z Z) Z<|sa Z Z<|sa Z Z<|Wn<|tN<|Qe<|Qa<|sm Z Z<|st (QC Z Z) Z<|Wn<|tN<|QO Z (Z)<|Qa<|sm Z Z<|sa Z Z<|Wn<|tN<|Qg<|tR ?_
  exact (rT Z Z (DPost.of (h1.bel hb2) ((hC1.g h.inS.1).then_below hb2) ((Q6 hl _).trans (Jd (Jy hf) _)))).1
 | some r =>
  have hf:mget D.files n=some r.f:=by rw [h.files,hr]; rfl
  have hlen:=(hok'.len (Jy hf)).1
  refine Qj (args:=[.pointer (some ⟨g,0,none⟩),Qv n]) 24 fz93 Z Z Z<|Qt [(0,.pointer (some ⟨g,0,none⟩)),(1,Qv n)] ?_ ⟨Z,Z,tvA⟩
  refine Qa<|sa Z Z<|Wn<|tN<|Qe<|Qa<|sm Z Z<|sc _ fz72 Z Qo Z Z<|(JW g b D rs S _ h hok hl).mono ?_
  rintro e_ w1 ⟨rfl,h1,hC1⟩
  refine cR<|sa Z Z<|Wn<|tN<|Qa<|sm Z Z<|st (QC Z Z) Z<|Wn<|tN<|QX Z (Z)<|Qf<|tN<|Qa<|sm Z Z<|sm Z Z<|sc _ fz58 Z Qo Z Z<|(Kn g b _ rs S n r _ h1 hr).mono ?_
  rintro e_ w2 ⟨rfl,hb2⟩;refine cR ?_;have h2:=h1.bel hb2
  have hF:=h2.at_ n r hr
  refine sm Z Z<|st (Qu Z Z) Z<|st (Qu Z Z) Z<|sa Z Z<|sa Z Z<|Wn<|tN<|Qe<|Qa<|sm Z Z<|st (QC Z Z) Z<|Wn<|tN<|QX Z (Z)<|Qf<|tN<|Qa<|sm Z Z<|sc _ Tryz.func59 Z Qo Z Z<|(HS r.blk r.vl r.vn r.vp r.f.now _ hF.blk hF.now Qb).mono ?_
  rintro e_ w3 ⟨rfl,vl',hB3,hL3,hN3,hO3,hC3⟩
  refine cR<|Wn<|tN<|Qa<|sa Z Z<|Wn<|tN<|Qg<|(rT Z Z (DPost.up (x:=(0,{ QH D with files:=sput (QH D).files n (KY r.f) })) ((hC1.g h.inS.1).then_below hb2) ⟨b,_,h2.lasts hr hok'.srt hB3 hL3 hN3 hO3 hC3⟩ (hC3.mono (fun k _ hk=>h.inR n r k hr (.inl hk))) ((Q6 hl _).trans (QW (Jy hf) _)))).1
end
section
open Go.RowKit
theorem Chg.bel {S:Nat→Prop} {w w' w'':World} (h:Chg S w w') (hb:Below w'.heap.size w' w''):Chg S w w'':=h.then_below hb
theorem bfile (w:World):(Instr.build 117 #[]).run Tryz.prog w=.ok (.agg #[.slice none 0 0,.slice none 0 0,.slice none 0 0]) w:=by kernel_rfl
theorem Xu {rs:List (Key×FRec)} {n:Key} {o:Option Nat} (h:(mget rs n).map FRec.blk=o):((mget (rs.map fun p=>(p.1,p.2.blk)) n).map ZP).getD (.pointer none)=.pointer (o.map fun g=>⟨g,0,none⟩):=by
 rw [VL,h]
 cases o <;> rfl
theorem Qej (g:Nat) (D:DiskD) (S:Nat→Prop) (n:Key) (w:World) (h:DiskAt w g D S) (hok:DOk D) :
  Calls Tryz.prog 25 #[.pointer (some ⟨g,0,none⟩),Qv n] w (DPost g S w (QV D n)):=by
 have h0:=h;obtain ⟨b,rs,h⟩:=h
 by_cases hl:D.stops=true∧D.left=0
 ·skip
  refine Qj (args:=[.pointer (some ⟨g,0,none⟩),Qv n]) 30 fz25 Z Z Z<|Qt [(0,.pointer (some ⟨g,0,none⟩)),(1,Qv n)] ?_ ⟨Z,Z,tvA⟩
  have bw:=Below.refl w.heap.size w
  refine Qa<|sa Z Z<|Wn<|tN<|Qe<|Qa<|sm Z Z<|sc _ fz72 Z Qo Z Z (Q3 (YV g b D _ (h.bel bw).blk hl) fun w1 hb=>?_)
  replace bw:=Ql bw hb;have zz1:=hb.size;clear hb
  refine sa Z Z<|Wn<|tN<|Qa<|sm Z Z<|st (QC Z Z) Z<|Wn<|tN<|QO Z (Z)<|Qa<|sm Z Z<|sa Z Z<|Wn<|tN<|Qg<|tR ?_
  exact (rT Z Z (DPost.same h0 bw (ZY hl _))).1
 have hok':=Kt hok hl
 cases hr:mget rs n with
 | some r =>
  have hf:mget D.files n=some r.f:=by rw [h.files,hr]; rfl
  have hv:=Xu (rs:=rs) (n:=n) (o:=some r.blk) (by rw [hr]; rfl)
  refine Qj (args:=[.pointer (some ⟨g,0,none⟩),Qv n]) 30 fz25 Z Z Z<|Qt [(0,.pointer (some ⟨g,0,none⟩)),(1,Qv n)] ?_ ⟨Z,Z,tvA⟩
  refine Qa<|sa Z Z<|Wn<|tN<|Qe<|Qa<|sm Z Z<|sc _ fz72 Z Qo Z Z<|(JW g b D rs S _ h hok hl).mono ?_
  rintro e_ w1 ⟨rfl,h1_,hC1_⟩;refine cR ?_;have h1:=h1_;have hC1:=hC1_.g h.inS.1;have hB:Blk w1 g 50 #[.map (some b),.int .i64 (QH D).limit,.int .i64 (QH D).used,.int .i64 (QH D).refused,.bool (QH D).stops,.int .i64 (QH D).left]:=h1.blk;clear h1_ hC1_
  refine sa Z Z<|Wn<|tN<|Qa<|sm Z Z<|st (QC Z Z) Z<|Wn<|tN<|QX Z (Z)<|Qf<|tN<|Qe<|Qp<|Qa<|sm Z Z<|sc _ fz73 Z Qo Z Z (Q3 (YM n _) fun w2 hb=>?_)
  replace h1:=h1.bel hb;replace hB:=hB.bel hb;replace hC1:=hC1.bel hb;have zz2:=hb.size;clear hb
  refine st (Jk Z) Z<|sa Z Z<|Wn<|tN<|Qx Z (fun h11=>?_) (fun h11=>?_)
  ·replace h11:=Qs h11
   refine Qa<|sa Z Z<|Wn<|tN<|Qg<|bR<|tR<|(rT Z Z (DPost.of h1 hC1 ((Q6 hl _).trans ?_))).1
   exact if_neg (by simp [h11])
  ·replace h11:=Qs h11
   refine Qa<|sm Z Z<|st (Qc Z) Z<|st (Qk KF Z) Z<|st (Qi Z hB uz48 Z Z) Z<|sm Z Z<|st (v:=.pointer (some ⟨r.blk,0,none⟩)) (hv▸Vy (KZ uz9) Z n Z uz48 (zptr _) h1.map) Z<|st (Qqh Z) Z<|sa Z Z<|Wn<|tN<|QO Z (Z)<|Qa<|sa Z Z<|Wn<|tN<|Qg<|bR<|tR<|(rT Z Z (DPost.of h1 hC1 ((Q6 hl _).trans ?_))).1
   rw [if_pos (by simpa using h11),if_pos (by rw [Jy hf]; rfl)]
 | none =>
  have hf:mget D.files n=none:=by rw [h.files,hr]; rfl
  have hv:=Xu (rs:=rs) (n:=n) (o:=none) (by rw [hr]; rfl)
  refine Qj (args:=[.pointer (some ⟨g,0,none⟩),Qv n]) 30 fz25 Z Z Z<|Qt [(0,.pointer (some ⟨g,0,none⟩)),(1,Qv n)] ?_ ⟨Z,Z,tvA⟩
  refine Qa<|sa Z Z<|Wn<|tN<|Qe<|Qa<|sm Z Z<|sc _ fz72 Z Qo Z Z<|(JW g b D rs S _ h hok hl).mono ?_
  rintro e_ w1 ⟨rfl,h1_,hC1_⟩;refine cR ?_;have h1:=h1_;have hC1:=hC1_.g h.inS.1;have hB:Blk w1 g 50 #[.map (some b),.int .i64 (QH D).limit,.int .i64 (QH D).used,.int .i64 (QH D).refused,.bool (QH D).stops,.int .i64 (QH D).left]:=h1.blk;clear h1_ hC1_
  refine sa Z Z<|Wn<|tN<|Qa<|sm Z Z<|st (QC Z Z) Z<|Wn<|tN<|QX Z (Z)<|Qf<|tN<|Qe<|Qp<|Qa<|sm Z Z<|sc _ fz73 Z Qo Z Z (Q3 (YM n _) fun w2 hb=>?_)
  replace h1:=h1.bel hb;replace hB:=hB.bel hb;replace hC1:=hC1.bel hb;have zz2:=hb.size;clear hb
  refine st (Jk Z) Z<|sa Z Z<|Wn<|tN<|Qx Z (fun h11=>?_) (fun h11=>?_)
  ·replace h11:=Qs h11
   refine Qa<|sa Z Z<|Wn<|tN<|Qg<|bR<|tR<|(rT Z Z (DPost.of h1 hC1 ((Q6 hl _).trans ?_))).1
   exact if_neg (by simp [h11])
  ·replace h11:=Qs h11
   refine Qa<|sm Z Z<|st (Qc Z) Z<|st (Qk KF Z) Z<|st (Qi Z hB uz48 Z Z) Z<|sm Z Z<|st (v:=.pointer none) (hv▸Vy (KZ uz9) Z n Z uz48 (zptr _) h1.map) Z<|st (Qqh Z) Z<|sa Z Z<|Wn<|tN<|QX Z (Z)<|Qf<|bN<|tN<|Qa<|sm Z Z<|st (Qc Z) Z<|st (Qk KF Z) Z<|st (Qi Z hB uz48 Z Z) Z<|sm Z Z<|st (Ja Z (bfile _)) Z<|J1 Z Z (fun g29 w3 hB29 hg29 hb hl29=>(smu (KZ uz9) Z n g29 Z Z uz48 (h1.map.bel hb) (fun w4 hM2 hC2=>(Wn (tN (Qa (sa Z Z (Wn (tN (Qg ?_))))))))))
   have hbl:=h1.map.lt;have hcx:=(Chg.of_below hb (fun k=>k=g∨k=b)).next hC2 (fun i hi=>.inl (.inr hi));refine (rT Z Z (DPost.up (x:=(0,{ QH D with files:=sput (QH D).files n newFile })) hC1 ⟨b,_,h1.add (r':=⟨g29,.slice none 0 0,.slice none 0 0,.slice none 0 0,newFile⟩) hcx ((h1.blk.belowAll hb).chg hC2 h1.gb) hM2 (fun m=>Zv hok'.srt n _ m) ⟨hB29.chg hC2 Qb,Row.nil _ _ _,Row.nil _ _ _,Row.nil _ _ _,fun k hk=>by simp [Value.ownBlock] at hk⟩ ?_⟩ (hcx.mono (fun k _ hk=>hk.elim (fun e=>e▸h.inS.1) (fun e=>e▸h.inS.2))) ((Q6 hl _).trans ?_))).1
   ·rintro k (e|e|e|e)
    ·subst e;exact hg29
    all_goals simp [Value.ownBlock] at e
   ·rw [if_pos (by simpa using h11),if_neg (by rw [Jy hf]; simp)]
end
section
open Go.RowKit
theorem DiskIn.remove {w w':World} {g b:Nat} {D:DiskD} {rs:List (Key×FRec)} {S:Nat→Prop} {m:Key} (h:DiskIn w g b D rs S) (hs:Rising D.files) (hC:Chg (fun k=>k=b) w w') (hM:MapAt w' b Qv ZP (mdel (rs.map fun p=>(p.1,p.2.blk)) m)) :
  DiskIn w' g b { D with files:=mdel D.files m } (mdel rs m) S:=by
 refine h.sub id (fun q s hq=>?_) (fun _ _ _ _ _ _ hne=>hne) (hC.mono (fun k _ hk=>.inr hk)) (h.blk.chg hC h.gb) (by rw [Qki]; exact hM) (fun q=>?_)
 ·rw [J0 h.keys] at hq
  split at hq
  ·cases hq
  ·exact hq
 ·show mget (mdel D.files m) q=_
  rw [J0 hs.nodup,J0 h.keys]
  split
  ·rfl
  ·exact h.files q
theorem U1 (g:Nat) (D:DiskD) (S:Nat→Prop) (n:Key) (w:World) (h:DiskAt w g D S) (hok:DOk D) :
  Calls Tryz.prog 29 #[.pointer (some ⟨g,0,none⟩),Qv n] w (DPost g S w (Q7 D n)):=by
 have h0:=h;obtain ⟨b,rs,h⟩:=h
 by_cases hl:D.stops=true∧D.left=0
 ·skip
  refine Qj (args:=[.pointer (some ⟨g,0,none⟩),Qv n]) 39 fz29 Z Z Z<|Qt [(0,.pointer (some ⟨g,0,none⟩)),(1,Qv n)] ?_ ⟨Z,Z,tvA⟩
  have bw:=Below.refl w.heap.size w
  refine Qa<|sa Z Z<|Wn<|tN<|Qe<|Qa<|sm Z Z<|sc _ fz72 Z Qo Z Z (Q3 (YV g b D _ (h.bel bw).blk hl) fun w1 hb=>?_)
  replace bw:=Ql bw hb;have zz1:=hb.size;clear hb
  refine sa Z Z<|Wn<|tN<|Qa<|sm Z Z<|st (QC Z Z) Z<|Wn<|tN<|QO Z (Z)<|Qa<|sm Z Z<|sa Z Z<|Wn<|tN<|Qg<|tR ?_
  exact (rT Z Z (DPost.same h0 bw (ZY hl _))).1
 have hok':=Kt hok hl
 cases hr:mget rs n with
 | none =>
  have hf:mget D.files n=none:=by rw [h.files,hr]; rfl
  refine Qj (args:=[.pointer (some ⟨g,0,none⟩),Qv n]) 39 fz29 Z Z Z<|Qt [(0,.pointer (some ⟨g,0,none⟩)),(1,Qv n)] ?_ ⟨Z,Z,tvA⟩
  refine Qa<|sa Z Z<|Wn<|tN<|Qe<|Qa<|sm Z Z<|sc _ fz72 Z Qo Z Z<|(JW g b D rs S _ h hok hl).mono ?_
  rintro e_ w1 ⟨rfl,h1,hC1⟩
  refine cR<|sa Z Z<|Wn<|tN<|Qa<|sm Z Z<|st (QC Z Z) Z<|Wn<|tN<|QX Z (Z)<|Qf<|tN<|Qa<|sm Z Z<|sm Z Z<|sc _ fz58 Z Qo Z Z<|(K0 g b _ rs S n _ h1 hr).mono ?_
  rintro e_ w2 ⟨rfl,hb2⟩
  refine cR<|sm Z Z<|st (Qu Z Z) Z<|st (Qu Z Z) Z<|sa Z Z<|sa Z Z<|Wn<|tN<|Qe<|Qa<|sm Z Z<|st (QC Z Z) Z<|Wn<|tN<|QO Z (Z)<|Qa<|sm Z Z<|sa Z Z<|Wn<|tN<|Qg<|tR ?_
  exact (rT Z Z (DPost.of (h1.bel hb2) ((hC1.g h.inS.1).then_below hb2) ((Q6 hl _).trans (Jd (Jy hf) _)))).1
 | some r =>
  have hf:mget D.files n=some r.f:=by rw [h.files,hr]; rfl
  obtain ⟨hlen,_,hlu⟩:=hok'.len (Jy hf);have hlim:=hok'.lim;have hroom:=hok'.room
  refine Qj (args:=[.pointer (some ⟨g,0,none⟩),Qv n]) 39 fz29 Z Z Z<|Qt [(0,.pointer (some ⟨g,0,none⟩)),(1,Qv n)] ?_ ⟨Z,Z,tvA⟩
  refine Qa<|sa Z Z<|Wn<|tN<|Qe<|Qa<|sm Z Z<|sc _ fz72 Z Qo Z Z<|(JW g b D rs S _ h hok hl).mono ?_
  rintro e_ w1 ⟨rfl,h1,hC1⟩
  refine cR<|sa Z Z<|Wn<|tN<|Qa<|sm Z Z<|st (QC Z Z) Z<|Wn<|tN<|QX Z (Z)<|Qf<|tN<|Qa<|sm Z Z<|sm Z Z<|sc _ fz58 Z Qo Z Z<|(Kn g b _ rs S n r _ h1 hr).mono ?_
  rintro e_ w2 ⟨rfl,hb2⟩;refine cR ?_;have h2:=h1.bel hb2;have hC2:=(hC1.g h.inS.1).then_below hb2;have hF:=(h2.at_ n r hr).blk;obtain ⟨a,c,hvn,_⟩:=(h2.at_ n r hr).now.shape;rw [hvn] at hF;have hB:Blk w2 g 50 #[.map (some b),.int .i64 (QH D).limit,.int .i64 (QH D).used,.int .i64 (QH D).refused,.bool (QH D).stops,.int .i64 (QH D).left]:=h2.blk
  refine sm Z Z<|st (Qu Z Z) Z<|st (Qu Z Z) Z<|sa Z Z<|sa Z Z<|Wn<|tN<|Qe<|Qa<|sm Z Z<|st (QC Z Z) Z<|Wn<|tN<|QX Z (Z)<|Qf<|tN<|UJ 12 Qo Qo ?_
  obtain ⟨w3,hw_,hb⟩:=QN w2;rw [← hw_];clear hw_;replace hB:=hB.bel hb;replace hF:=hF.bel hb;replace h2:=h2.bel hb;replace hC2:=hC2.bel hb;have zz3:=hb.size;clear hb
  refine hY (Qd Z) Z<|hY (Qc Z) Z<|hY (Qk K2 Z) Z<|hY (Qi Z hB uz3 Z Z) Z<|hY (Qd Z) Z<|hY (Qc Z) Z<|hY (Qk Zr Z) Z<|hY (Qi Z hF uz114 Z Z) Z<|hY (QT Z Z uz114) Z<|hY (JU Z Z Qb) Z<|hY (Qc Z) Z<|hY (Qk K2 Z) Z<|hN<|KL Z Z hB siz3 Z Q0 (fun w4 hB3 hC3=>?_)
  have h3:=h2.self (D':={ QH D with used:=(QH D).used-r.f.now.length }) hC3 hB3 rfl;replace hB:=hB3
  refine Wn<|tN<|Qa<|sm Z Z<|st (Qc Z) Z<|st (Qk KF Z) Z<|st (Qi Z hB uz48 Z Z) Z<|sm Z Z<|sdel (KZ uz9) Z n Z uz48 h3.map (fun w5 hM4 hC4=>(Wn (tN (Qa (sa Z Z (Wn (tN (Qg ?_))))))))
  exact (rT Z Z (DPost.up (x:=(0,{ QH D with files:=mdel (QH D).files n,used:=(QH D).used-r.f.now.length })) hC2 ⟨b,_,(h3.remove hok'.srt hC4 hM4).mono Ext.of⟩ ((hC3.g h.inS.1).next (hC4.g h.inS.2) (fun i hi=>.inl hi)) ((Q6 hl _).trans (QW (Jy hf) _)))).1
theorem Qgq {ν:Type} {m:List (Key×ν)} (hm:(m.map (·.1)).Nodup) (a b q:Key) (v:ν):mget (mput (mdel m a) b v) q=if q=b then some v else if q=a then none else mget m q:=by rw [Z6,J0 hm]
theorem DiskIn.rename {w w':World} {g b:Nat} {D:DiskD} {rs:List (Key×FRec)} {S:Nat→Prop} {m n:Key} {r:FRec} (h:DiskIn w g b D rs S) (hs:Rising D.files) (hr:mget rs m=some r) (hC:Chg (fun k=>k=b) w w') (hM:MapAt w' b Qv ZP (mput (mdel (rs.map fun p=>(p.1,p.2.blk)) m) n r.blk)) :
  DiskIn w' g b { D with files:=sput (mdel D.files m) n r.f } (mput (mdel rs m) n r) S:=by
 refine h.sub (fun q=>if q=n then m else q) (fun q s hq=>?_) (fun q q' s s' hq hq' hne=>?_) (hC.mono (fun k _ hk=>.inr hk)) (h.blk.chg hC h.gb) (by rw [Qcr FRec.blk,Qki]; exact hM) (fun q=>?_)
 ·rw [Qgq h.keys] at hq
  split at hq
  ·injection hq with hq
   rename_i e
   rw [if_pos e,hr,hq]
  ·rename_i e
   rw [if_neg e]
   split at hq
   ·cases hq
   ·exact hq
 ·rw [Qgq h.keys] at hq hq'
  by_cases e:q=n
  ·rw [if_pos e,if_neg (fun e'=>hne (e.trans e'.symm))];rw [if_neg (fun e'=>hne (e.trans e'.symm))] at hq';rintro rfl;rw [if_pos rfl] at hq'
   cases hq'
  ·rw [if_neg e];rw [if_neg e] at hq
   split
   ·rintro rfl;rw [if_pos rfl] at hq
    cases hq
   ·exact hne
 ·show mget (sput (mdel D.files m) n r.f) q=_
  rw [Zv (hs.del m),Qgq h.keys,J0 hs.nodup]
  split
  ·rfl
  ·split
   ·rfl
   ·exact h.files q
theorem Qow (g:Nat) (D:DiskD) (S:Nat→Prop) (m n:Key) (w:World) (h:DiskAt w g D S) (hok:DOk D) :
  Calls Tryz.prog 109 #[.pointer (some ⟨g,0,none⟩),Qv m,Qv n] w (DPost g S w (Kx D m n)):=by
 have h0:=h;obtain ⟨b,rs,h⟩:=h
 by_cases hl:D.stops=true∧D.left=0
 ·skip
  refine Qj (args:=[.pointer (some ⟨g,0,none⟩),Qv m,Qv n]) 62 fz109 Z Z Z<|Qt [(0,.pointer (some ⟨g,0,none⟩)),(1,Qv m),(2,Qv n)] ?_ ⟨Z,Z,Z,tvA⟩
  have bw:=Below.refl w.heap.size w
  refine Qa<|sa Z Z<|Wn<|tN<|Qe<|Qa<|sm Z Z<|sc _ fz72 Z Qo Z Z (Q3 (YV g b D _ (h.bel bw).blk hl) fun w1 hb=>?_)
  replace bw:=Ql bw hb;have zz1:=hb.size;clear hb
  refine sa Z Z<|Wn<|tN<|Qa<|sm Z Z<|st (QC Z Z) Z<|Wn<|tN<|QO Z (Z)<|Qa<|sm Z Z<|sa Z Z<|Wn<|tN<|Qg<|tR ?_
  exact (rT Z Z (DPost.same h0 bw (ZY hl _))).1
 have hok':=Kt hok hl
 by_cases hnm:Zj n=true
 rotate_left
 ·skip
  refine Qj (args:=[.pointer (some ⟨g,0,none⟩),Qv m,Qv n]) 62 fz109 Z Z Z<|Qt [(0,.pointer (some ⟨g,0,none⟩)),(1,Qv m),(2,Qv n)] ?_ ⟨Z,Z,Z,tvA⟩
  refine Qa<|sa Z Z<|Wn<|tN<|Qe<|Qa<|sm Z Z<|sc _ fz72 Z Qo Z Z<|(JW g b D rs S _ h hok hl).mono ?_
  rintro e_ w1 ⟨rfl,h1,hC1⟩
  refine cR<|sa Z Z<|Wn<|tN<|Qa<|sm Z Z<|st (QC Z Z) Z<|Wn<|tN<|QX Z (Z)<|Qf<|tN<|Qe<|Qa<|sm Z Z<|sc _ fz73 Z Qo Z Z<|(YM n _).mono ?_
  rintro e_ w2 ⟨rfl,hb2⟩
  refine cR<|st (Jk Z) Z<|Wn<|tN<|QO Z (by simpa using hnm) ?_
  refine Qa<|sa Z Z<|Wn<|tN<|Qg<|tR ?_
  exact (rT Z Z (DPost.of (h1.bel hb2) ((hC1.g h.inS.1).then_below hb2) ((Q6 hl _).trans (if_neg hnm)))).1
 cases hr:mget rs m with
 | none =>
  have hf:mget D.files m=none:=by rw [h.files,hr]; rfl
  refine Qj (args:=[.pointer (some ⟨g,0,none⟩),Qv m,Qv n]) 62 fz109 Z Z Z<|Qt [(0,.pointer (some ⟨g,0,none⟩)),(1,Qv m),(2,Qv n)] ?_ ⟨Z,Z,Z,tvA⟩
  refine Qa<|sa Z Z<|Wn<|tN<|Qe<|Qa<|sm Z Z<|sc _ fz72 Z Qo Z Z<|(JW g b D rs S _ h hok hl).mono ?_
  rintro e_ w1 ⟨rfl,h1,hC1⟩
  refine cR<|sa Z Z<|Wn<|tN<|Qa<|sm Z Z<|st (QC Z Z) Z<|Wn<|tN<|QX Z (Z)<|Qf<|tN<|Qe<|Qa<|sm Z Z<|sc _ fz73 Z Qo Z Z<|(YM n _).mono ?_
  rintro e_ w2 ⟨rfl,hb2⟩
  refine cR<|st (Jk Z) Z<|Wn<|tN<|QX Z (by simpa using hnm) ?_
  refine Qf<|tN<|Qa<|sm Z Z<|sm Z Z<|sc _ fz58 Z Qo Z Z<|(K0 g b _ rs S m _ (h1.bel hb2) hr).mono ?_
  rintro e_ w3 ⟨rfl,hb3⟩
  refine cR<|sm Z Z<|st (Qu Z Z) Z<|st (Qu Z Z) Z<|sa Z Z<|sa Z Z<|Wn<|tN<|Qe<|Qa<|sm Z Z<|st (QC Z Z) Z<|Wn<|tN<|QO Z (Z)<|Qa<|sm Z Z<|sa Z Z<|Wn<|tN<|Qg<|tR ?_
  exact (rT Z Z (DPost.of ((h1.bel hb2).bel hb3) (((hC1.g h.inS.1).then_below hb2).then_below hb3) ((Q6 hl _).trans ((if_pos hnm).trans (Jd (Jy hf) _))))).1
 | some r =>
  have hf:mget D.files m=some r.f:=by rw [h.files,hr]; rfl
  have hlim:=hok'.lim;have hroom:=hok'.room
  cases hr2:mget rs n with
  | none =>
   have hf2:mget D.files n=none:=by rw [h.files,hr2]; rfl
   have hv:=Xu (rs:=rs) (n:=n) (o:=none) (by rw [hr2]; rfl)
   refine Qj (args:=[.pointer (some ⟨g,0,none⟩),Qv m,Qv n]) 62 fz109 Z Z Z<|Qt [(0,.pointer (some ⟨g,0,none⟩)),(1,Qv m),(2,Qv n)] ?_ ⟨Z,Z,Z,tvA⟩
   refine Qa<|sa Z Z<|Wn<|tN<|Qe<|Qa<|sm Z Z<|sc _ fz72 Z Qo Z Z<|(JW g b D rs S _ h hok hl).mono ?_
   rintro e_ w1 ⟨rfl,h1,hC1⟩
   refine cR<|sa Z Z<|Wn<|tN<|Qa<|sm Z Z<|st (QC Z Z) Z<|Wn<|tN<|QX Z (Z)<|Qf<|tN<|Qe<|Qa<|sm Z Z<|sc _ fz73 Z Qo Z Z<|(YM n _).mono ?_
   rintro e_ w2 ⟨rfl,hb2⟩
   refine cR<|st (Jk Z) Z<|Wn<|tN<|QX Z (by simpa using hnm) ?_
   refine Qf<|tN<|Qa<|sm Z Z<|sm Z Z<|sc _ fz58 Z Qo Z Z<|(Kn g b _ rs S m r _ (h1.bel hb2) hr).mono ?_
   rintro e_ w3 ⟨rfl,hb3⟩;refine cR ?_;have h2:=(h1.bel hb2).bel hb3;have hC2:=((hC1.g h.inS.1).then_below hb2).then_below hb3;have hB:Blk w3 g 50 #[.map (some b),.int .i64 (QH D).limit,.int .i64 (QH D).used,.int .i64 (QH D).refused,.bool (QH D).stops,.int .i64 (QH D).left]:=h2.blk
   refine sm Z Z<|st (Qu Z Z) Z<|st (Qu Z Z) Z<|sa Z Z<|sa Z Z<|Wn<|tN<|Qe<|Qa<|sm Z Z<|st (QC Z Z) Z<|Wn<|tN<|QX Z (Z)<|Qf<|tN<|Qe<|Qa<|sm Z Z<|sm Z Z<|st (KR Z Z) Z<|Wn<|tN<|Qx Z (fun h30=>?_) (fun h30=>?_)
   ·replace h30:=Qs h30
    refine Qa<|sa Z Z<|Wn<|tN<|Qg<|tR ?_
    exact (rT Z Z (DPost.of h2 hC2 ((Q6 hl _).trans ((if_pos hnm).trans ((QW (Jy hf) _).trans (if_pos h30)))))).1
   ·replace h30:=Qs h30
    refine Qf<|tN<|Qe<|Qa<|sm Z Z<|st (Qc Z) Z<|st (Qk KF Z) Z<|st (Qi Z hB uz48 Z Z) Z<|sm Z Z<|st (v:=.pointer none) (hv▸Vy (KZ uz9) Z n Z uz48 (zptr _) h2.map) Z<|sa Z Z<|Wn<|tN<|Qa<|sm Z Z<|st (Qqh Z) Z<|Wn<|tN<|QX Z (Z)<|Qf<|tN<|Qa<|sm Z Z<|st (Qc Z) Z<|st (Qk KF Z) Z<|st (Qi Z hB uz48 Z Z) Z<|sm Z Z<|sdel (KZ uz9) Z m Z uz48 h2.map (fun w4 hM4 hC4=>?_)
    replace hB:=hB.chg hC4 h2.gb
    refine Wn<|tN<|Qa<|sm Z Z<|st (Qc Z) Z<|st (Qk KF Z) Z<|st (Qi Z hB uz48 Z Z) Z<|sm Z Z<|sm Z Z<|smu (KZ uz9) Z n r.blk Z Z uz48 hM4 (fun w5 hM5 hC5=>(Wn (tN (Qa (sa Z Z (Wn (tN (Qg ?_))))))))
    have hC45:=hC4.next hC5 (fun i hi=>.inl hi);have h5:=h2.rename hok'.srt hr hC45 hM5;refine (rT Z Z (DPost.up (x:=(0,{ QH D with files:=sput (mdel (QH D).files m) n r.f })) hC2 ⟨b,_,h5.mono Ext.of⟩ (hC45.g h.inS.2) ((Q6 hl _).trans ((if_pos hnm).trans ((QW (Jy hf) _).trans ((if_neg h30).trans ?_)))))).1;unfold Qcw;rw [Jy hf2]
    simp
  | some r2 =>
   have hf2:mget D.files n=some r2.f:=by rw [h.files,hr2]; rfl
   have hv:=Xu (rs:=rs) (n:=n) (o:=some r2.blk) (by rw [hr2]; rfl);obtain ⟨hlen,_,hlu⟩:=hok'.len (Jy hf2)
   refine Qj (args:=[.pointer (some ⟨g,0,none⟩),Qv m,Qv n]) 62 fz109 Z Z Z<|Qt [(0,.pointer (some ⟨g,0,none⟩)),(1,Qv m),(2,Qv n)] ?_ ⟨Z,Z,Z,tvA⟩
   refine Qa<|sa Z Z<|Wn<|tN<|Qe<|Qa<|sm Z Z<|sc _ fz72 Z Qo Z Z<|(JW g b D rs S _ h hok hl).mono ?_
   rintro e_ w1 ⟨rfl,h1,hC1⟩
   refine cR<|sa Z Z<|Wn<|tN<|Qa<|sm Z Z<|st (QC Z Z) Z<|Wn<|tN<|QX Z (Z)<|Qf<|tN<|Qe<|Qa<|sm Z Z<|sc _ fz73 Z Qo Z Z<|(YM n _).mono ?_
   rintro e_ w2 ⟨rfl,hb2⟩
   refine cR<|st (Jk Z) Z<|Wn<|tN<|QX Z (by simpa using hnm) ?_
   refine Qf<|tN<|Qa<|sm Z Z<|sm Z Z<|sc _ fz58 Z Qo Z Z<|(Kn g b _ rs S m r _ (h1.bel hb2) hr).mono ?_
   rintro e_ w3 ⟨rfl,hb3⟩;refine cR ?_;have h2:=(h1.bel hb2).bel hb3;have hC2:=((hC1.g h.inS.1).then_below hb2).then_below hb3;have hF:=(h2.at_ n r2 hr2).blk;obtain ⟨a,c,hvn,_⟩:=(h2.at_ n r2 hr2).now.shape;rw [hvn] at hF;have hB:Blk w3 g 50 #[.map (some b),.int .i64 (QH D).limit,.int .i64 (QH D).used,.int .i64 (QH D).refused,.bool (QH D).stops,.int .i64 (QH D).left]:=h2.blk
   refine sm Z Z<|st (Qu Z Z) Z<|st (Qu Z Z) Z<|sa Z Z<|sa Z Z<|Wn<|tN<|Qe<|Qa<|sm Z Z<|st (QC Z Z) Z<|Wn<|tN<|QX Z (Z)<|Qf<|tN<|Qe<|Qa<|sm Z Z<|sm Z Z<|st (KR Z Z) Z<|Wn<|tN<|Qx Z (fun h30=>?_) (fun h30=>?_)
   ·replace h30:=Qs h30
    refine Qa<|sa Z Z<|Wn<|tN<|Qg<|tR ?_
    exact (rT Z Z (DPost.of h2 hC2 ((Q6 hl _).trans ((if_pos hnm).trans ((QW (Jy hf) _).trans (if_pos h30)))))).1
   ·replace h30:=Qs h30
    refine Qf<|tN<|Qe<|Qa<|sm Z Z<|st (Qc Z) Z<|st (Qk KF Z) Z<|st (Qi Z hB uz48 Z Z) Z<|sm Z Z<|st (v:=.pointer (some ⟨r2.blk,0,none⟩)) (hv▸Vy (KZ uz9) Z n Z uz48 (zptr _) h2.map) Z<|sa Z Z<|Wn<|tN<|Qa<|sm Z Z<|st (Qqh Z) Z<|Wn<|tN<|QO Z (Z)<|V8 12 Qo Qo ?_
    obtain ⟨w4,hw_,hb⟩:=QN w3;rw [← hw_];clear hw_;replace hB:=hB.bel hb;replace hF:=hF.bel hb;replace h2:=h2.bel hb;replace hC2:=hC2.bel hb;have zz4:=hb.size;clear hb
    refine hY (Qd Z) Z<|hY (Qc Z) Z<|hY (Qk K2 Z) Z<|hY (Qi Z hB uz3 Z Z) Z<|hY (Qd Z) Z<|hY (Qc Z) Z<|hY (Qk Zr Z) Z<|hY (Qi Z hF uz114 Z Z) Z<|hY (QT Z Z uz114) Z<|hY (JU Z Z Qb) Z<|hY (Qc Z) Z<|hY (Qk K2 Z) Z<|hN<|KL Z Z hB siz3 Z Q0 (fun w5 hB3 hC3=>?_)
    have h3:=h2.self (D':={ QH D with used:=(QH D).used-r2.f.now.length }) hC3 hB3 rfl;replace hB:=hB3
    refine Wn<|tN<|Qa<|sm Z Z<|st (Qc Z) Z<|st (Qk KF Z) Z<|st (Qi Z hB uz48 Z Z) Z<|sm Z Z<|sdel (KZ uz9) Z m Z uz48 h3.map (fun w6 hM4 hC4=>?_)
    replace hB:=hB.chg hC4 h2.gb
    refine Wn<|tN<|Qa<|sm Z Z<|st (Qc Z) Z<|st (Qk KF Z) Z<|st (Qi Z hB uz48 Z Z) Z<|sm Z Z<|sm Z Z<|smu (KZ uz9) Z n r.blk Z Z uz48 hM4 (fun w7 hM5 hC5=>(Wn (tN (Qa (sa Z Z (Wn (tN (Qg ?_))))))))
    have hC45:=hC4.next hC5 (fun i hi=>.inl hi);have h5:=h3.rename hok'.srt hr hC45 hM5;refine (rT Z Z (DPost.up (x:=(0,{ QH D with files:=sput (mdel (QH D).files m) n r.f,used:=(QH D).used-r2.f.now.length })) hC2 ⟨b,_,h5.mono Ext.of⟩ ((hC3.g h.inS.1).next (hC45.g h.inS.2) (fun i hi=>.inl hi)) ((Q6 hl _).trans ((if_pos hnm).trans ((QW (Jy hf) _).trans ((if_neg h30).trans ?_)))))).1;unfold Qcw;rw [Jy hf2]
    rfl
theorem ssR {P:Program} {N:Nat} {ds:List Deferred} {Q:Post} {l:Env} {w:World} {ops:Array Oper} {rest:List Oper} {x y:Operand} {ty t e:TypeId} {pos:String} {aft:Array Edge} {g o j n c:Nat} {v:Value} {xs:List Value} (hx:ev l x=some (.pointer (some ⟨g,o+j,none⟩))) (hy:ev l y=some v) (hR:Row w e 1 (.slice (some ⟨g,o,none⟩) n c) n xs) (hj:j<n) (ht:(P.info? t).map (·.size)=some 1) (h1:v.oneCell'=true)
  (h:∀ w',Row w' e 1 (.slice (some ⟨g,o,none⟩) n c) n (xs.set j v)→Chg (fun k=>k=g) w w'→WL P N ds ops Q rest l w'):WL P N ds ops Q (⟨none,.store t x y,ty,pos,aft,none⟩::rest) l w:=by
 obtain ⟨g',o',c',hv,_,hnc,_,hc,hf⟩:=hR.form Qb;injection hv with ea _ ec;injection ea with ea;injection ea with eg eo;subst eg eo ec;have hlen:=hR.1
 exact ss (Xs.st hx hy ht h1 (by rw [hc j _ (List.getElem?_eq_getElem Qb)]; rfl) (hf j Qb))<|h _ (hR.store_ j hj v)<|(Chg.refl (fun k=>k=g) w).setCell (p:=⟨g,o+j,none⟩) (.inl Z) v
theorem Rot_any (g:Nat) (D:DiskD) (S:Nat→Prop) (n:Key) (i:Int) (c:UInt8) (w:World) (h:DiskAt w g D S) (hok:DOk D) :
  Calls Tryz.prog 19 #[.pointer (some ⟨g,0,none⟩),Qv n,.int .i64 i,.int .u8 c.toNat] w (DPost g S w (rotM D n i c)):=by
 have h0:=h;obtain ⟨b,rs,h⟩:=h
 cases hr:mget rs n with
 | none =>
  have hf:mget D.files n=none:=by rw [h.files,hr]; rfl
  refine Qj (args:=[.pointer (some ⟨g,0,none⟩),Qv n,.int .i64 i,.int .u8 c.toNat]) 42 Tryz.func19 Z Z Z<|Qt [(0,.pointer (some ⟨g,0,none⟩)),(1,Qv n),(2,.int .i64 i),(3,.int .u8 c.toNat)] ?_ ⟨Z,Z,Z,Z,tvA⟩
  have bw:=Below.refl w.heap.size w
  refine Qa<|sa Z Z<|Wn<|tN<|Qa<|sm Z Z<|sm Z Z<|sc _ fz58 Z Qo Z Z (Q3 (K0 g b D rs S n _ (h.bel bw) hr) fun w1 hb=>?_)
  replace bw:=Ql bw hb;have zz1:=hb.size;clear hb
  refine sm Z Z<|st (Qu Z Z) Z<|st (Qu Z Z) Z<|sa Z Z<|sa Z Z<|Wn<|tN<|Qe<|Qp<|Qa<|sm Z Z<|st (QC Z Z) Z<|sa Z Z<|Wn<|tN<|QO Z (Z)<|Qa<|sm Z Z<|sa Z Z<|Wn<|tN<|Qg<|bR<|tR ?_
  exact (rT Z Z (DPost.same h0 bw (Jd hf _))).1
 | some r =>
  have hf:mget D.files n=some r.f:=by rw [h.files,hr]; rfl
  have hlen:=(hok.len hf).1
  have hfile:=h.at_ n r hr
  have hF:=hfile.blk;have hNo:=hfile.now;obtain ⟨a,ca,hvn,hc1,_⟩:=hfile.now.shape;rw [hvn] at hF hNo
  refine Qj (args:=[.pointer (some ⟨g,0,none⟩),Qv n,.int .i64 i,.int .u8 c.toNat]) 42 Tryz.func19 Z Z Z<|Qt [(0,.pointer (some ⟨g,0,none⟩)),(1,Qv n),(2,.int .i64 i),(3,.int .u8 c.toNat)] ?_ ⟨Z,Z,Z,Z,tvA⟩
  have bw:=Below.refl w.heap.size w
  refine Qa<|sa Z Z<|Wn<|tN<|Qa<|sm Z Z<|sm Z Z<|sc _ fz58 Z Qo Z Z (Q3 (Kn g b D rs S n r _ (h.bel bw) hr) fun w1 hb=>?_)
  replace bw:=Ql bw hb;replace hF:=hF.bel hb;replace hNo:=hNo.bel hb;have zz1:=hb.size;clear hb
  refine sm Z Z<|st (Qu Z Z) Z<|st (Qu Z Z) Z<|sa Z Z<|sa Z Z<|Wn<|tN<|Qe<|Qp<|Qa<|sm Z Z<|st (QC Z Z) Z<|sa Z Z<|Wn<|tN<|QX Z (Z)<|Qa<|sm Z Z<|st (QJ Z Z) Z<|sb Z Z (fun h24=>?_) (fun h24=>?_)
  ·replace h24:=Qs h24
   refine gN Z Z Z Z<|gN Z Z Z Z<|gN Z Z Z Z<|gN Z Z Z Z<|gN Z Z Z Z<|gN Z Z Z Z<|gN Z Z Z Z<|st (Qm Z Z) Z<|sa Z Z<|Wn<|tN<|QO Z (Z)<|Qa<|sa Z Z<|Wn<|tN<|Qg<|bR<|tR ?_
   exact (rT Z Z (DPost.same h0 bw ((QW hf _).trans (if_pos Qb)))).1
  ·replace h24:=Qs h24
   refine gY Z Z Z<|sm Z Z<|gY Z Z Z<|sm Z Z<|gY Z Z Z<|st (Qc Z) Z<|gY Z Z Z<|st (Qk Zr Z) Z<|gY Z Z Z<|st (Qi Z hF uz114 Z Z) Z<|gY Z Z Z<|st (QT Z Z uz114) Z<|gY Z Z Z<|st (Z1 Z Z) Z<|st (Qq Z Z) Z<|sa Z Z<|Wn<|tN<|Qx Z (fun h21=>?_) (fun h21=>?_)
   ·replace h21:=Qs h21
    refine Qa<|sa Z Z<|Wn<|tN<|Qg<|bR<|tR ?_
    exact (rT Z Z (DPost.same h0 bw ((QW hf _).trans (if_pos Qb)))).1
   ·replace h21:=Qs h21
    refine Qf<|bN<|tN<|Qa ?_
    obtain ⟨j,rfl⟩:∃ j:Nat,i=j:=⟨i.toNat,by omega⟩
    obtain ⟨gn,on,cn,hv,_⟩:=hNo.form Qb;injection hv with ea _ ec;subst ea ec
    refine sm Z Z<|st (Qc Z) Z<|st (Qk Zr Z) Z<|st (Qi Z hF uz114 Z Z) Z<|sm Z Z<|sm Z Z<|st (QA (j:=j) Z Z uz114 siz5 Z Qb) Z<|ssR (j:=j) (by rw [Nat.mul_one]; rfl) Z hNo Qb siz5 Z (fun w2 hN2 hC2=>?_)
    have hF2:=hF.chg hC2 (fun e=>hNo.ne2 hF QF gn rfl e.symm)
    have hN3:Row w2 5 1 (.slice (some ⟨gn,on,none⟩) r.f.now.length ca) (r.f.now.set j c).length ((r.f.now.set j c).map bv):=by
     rw [List.length_set,List.map_set];exact hN2
    have hnl:(r.f.now.set j c).length=r.f.now.length:=List.length_set ..
    refine Wn<|tN<|Qa<|sm Z Z<|sc _ Tryz.func59 Z Qo Z Z<|(HS r.blk r.vl _ r.vp (r.f.now.set j c) _ hF2 hN3 Qb).mono ?_
    rintro e_ w3 ⟨rfl,vl',hB3,hL3,hN4,hO3,hC3⟩
    refine cR<|Wn<|tN<|Qa<|sa Z Z<|Wn<|tN<|Qg ?_
    have hCw:Chg (fun k=>k=g∨r.owns k) w w3:=(((Chg.of_below bw _).next hC2 (fun k hk=>.inl (.inr (.inr (.inr (.inl (by rw [hvn]; exact congrArg some hk.symm))))))).next hC3 (fun k hk=>.inl (.inr (.inl hk))))
    have hz3:=bw.size;have hz4:=hC2.size;have h5:=h.file (r':=⟨r.blk,vl',.slice (some ⟨gn,on,none⟩) r.f.now.length ca,.slice none 0 0,⟨r.f.now.set j c,r.f.now.set j c,[]⟩⟩) (D':={ D with files:=sput D.files n ⟨r.f.now.set j c,r.f.now.set j c,[]⟩ }) hr hCw (((h.blk.belowAll bw).chg hC2 (fun e=>(h.ne hr).1 (.inr (.inr (.inl (by rw [hvn]; exact congrArg some e.symm)))))).chg hC3 (fun e=>(h.ne hr).1 (.inl e))) (fun m=>Zv hok.srt n _ m) ⟨hB3,hL3,hN4,Row.nil _ _ _,fun k hk hk2=>?_⟩ rfl ?_
    ·have e1:rotM D n j c=(0,{ D with files:=sput D.files n ⟨r.f.now.set j c,r.f.now.set j c,[]⟩ }):=(QW hf _).trans (if_neg Qb);rw [e1];exact (rT Z Z ⟨Z,⟨b,_,h5⟩,hCw.mono (fun k _ hk=>hk.elim (fun e=>e▸h.inS.1) (h.inR n r k hr))⟩).1
    ·have:=hO3 k hk
     have:=hfile.lt (k:=k) (.inr (.inr (.inl (by rw [hvn]; exact hk2))))
     omega
    ·rintro k (e|e|e|e)
     ·exact .inl<|.inl e
     ·have:=hO3 k e
      exact .inr Qb
     ·exact .inl<|.inr<|.inr<|.inl (by rw [hvn]; exact e)
     ·simp [Value.ownBlock] at e
end
section
open Go.RowKit
structure Good (n:Nat) (D:DiskD):Prop where
  ok:DOk D
  pend:∀ k f,mget D.files k=some f→pendLen f.pend≤n∧f.pend.length≤n
  ref:D.refused≤n
  few:D.files.length≤n
section
variable {n m:Nat} {D:DiskD} {k:Key} {f:FileD}
theorem Good.bud (h:Good n D) (hn:n≤1099511627776):DBud D:=⟨fun k f hf=>by have:=h.pend k f hf; omega,by have:=h.ref; omega⟩
theorem Good.mono (h:Good n D) (hn:n≤m):Good m D:=⟨h.ok,fun k f hf=>by have:=h.pend k f hf; omega,by have:=h.ref; omega,by have:=h.few; omega⟩
theorem Good.new {l:Int} (hl:0≤l∧l≤16777216):Good n (YC l) :=
 ⟨⟨List.Pairwise.nil,hl,rfl,hl.1,Int.le_refl _,(fun h=>by cases h),(fun k f h=>by cases h)⟩,(fun k f h=>by cases h),(by show (0:Int)≤n; omega),Nat.zero_le _⟩
theorem Good.tick (h:Good n D) (hl:¬(D.stops=true∧D.left=0)):Good n (QH D):=by
 refine ⟨Kt h.ok hl,?_,?_,by rw [Zh]; exact h.few⟩
 ·rw [Zh];exact h.pend
 ·have:=h.ref
  unfold QH
  split <;> exact this
theorem H9 (l:List (Key×FileD)) (k:Key) (f:FileD):(sput l k f).length≤l.length+1:=by
 induction l with
 | nil=>simp [sput]
 | cons p l ih =>
  obtain ⟨a,u⟩:=p;unfold sput
  split
  ·simp
  ·split
   ·simp
   ·simp only [List.length_cons]
    omega
theorem Yp {l:List (Key×FileD)} (hl:Rising l) {k:Key} {f g:FileD} (h:mget l k=some g):(sput l k f).length=l.length:=by
 have h1:=Qfp (m:=sput l k f) (m':=l) (hl.sput k f).nodup hl.nodup (fun q=>by
  rw [Zv hl]
  split
  ·rename_i e
   rw [e,h]
   rfl
  ·rfl)
 simpa using h1.length_eq
theorem Qct (l:List (Key×FileD)) (k:Key):(mdel l k).length≤l.length:=by
 induction l with
 | nil=>simp [mdel]
 | cons p l ih =>
  obtain ⟨a,u⟩:=p;unfold mdel
  split
  ·simp
  ·simp only [List.length_cons]
   omega
theorem Qba {l:List (Key×FileD)} {k:Key} {f:FileD} (h:mget l k=some f):(mdel l k).length+1=l.length:=by
 induction l with
 | nil=>cases h
 | cons p l ih =>
  obtain ⟨a,u⟩:=p;unfold mget at h;unfold mdel
  split at h
  ·rename_i e
   rw [if_pos e]
   simp
  ·rename_i e
   rw [if_neg e];simp only [List.length_cons,ih h]
theorem Good.put (h:Good n D) (hn:n≤m) (hf:FOk f) (hp:pendLen f.pend≤m∧f.pend.length≤m) {u:Int} (hu:u=usedM (sput D.files k f)) (hr:u≤D.limit) (hw:(sput D.files k f).length≤m):Good m { D with files:=sput D.files k f,used:=u }:=by
 have hs:=h.ok.srt;refine ⟨⟨hs.sput k f,h.ok.lim,hu,hr,h.ok.ref,h.ok.stp,fun q g hg=>?_⟩,fun q g hg=>?_,by have:=h.ref; show D.refused≤m; omega,hw⟩
 ·replace hg:mget (sput D.files k f) q=some g:=hg;rw [Zv hs] at hg
  split at hg
  ·injection hg with hg;rw [← hg];exact hf
  ·exact h.ok.fok q g hg
 ·replace hg:mget (sput D.files k f) q=some g:=hg;rw [Zv hs] at hg
  split at hg
  ·injection hg with hg;rw [← hg];exact hp
  ·have:=h.pend q g hg
   omega
theorem Good.del (h:Good n D) {u:Int} (hu:u=usedM (mdel D.files k)):Good n { D with files:=mdel D.files k,used:=u }:=by
 have hs:=h.ok.srt
 have hle:u≤D.limit:=by
  have h1:=HD (m:=D.files) k;have h2:=h.ok.used;have h3:=h.ok.room
  omega
 refine ⟨⟨hs.del k,h.ok.lim,hu,hle,h.ok.ref,h.ok.stp,fun q g hg=>?_⟩,fun q g hg=>?_,h.ref,Nat.le_trans (Qct _ _) h.few⟩
 ·replace hg:mget (mdel D.files k) q=some g:=hg;rw [J0 hs.nodup] at hg
  split at hg
  ·cases hg
  ·exact h.ok.fok q g hg
 ·replace hg:mget (mdel D.files k) q=some g:=hg;rw [J0 hs.nodup] at hg
  split at hg
  ·cases hg
  ·exact h.pend q g hg
theorem Qqr (hs:Rising D.files) (hf:mget D.files k=none) (hn:f.now=[]):usedM (sput D.files k f)=usedM D.files:=by
 have:=Ve hs k f
 rw [hf,hn] at this
 simpa using this
theorem HA (hs:Rising D.files) {g:FileD} (hf:mget D.files k=some g):usedM (sput D.files k f)+g.now.length=usedM D.files+f.now.length:=by
 have:=Ve hs k f
 rw [hf] at this
 simpa using this
theorem Xt {c:DiskD→Int×DiskD} (h:Good n D) (hn:n≤m) (hc:∀ D',Good n D'→D'.files=D.files→D'.limit=D.limit→Good m (c D').2):Good m (opM D c).2:=by
 by_cases hl:D.stops=true∧D.left=0
 ·rw [ZY hl];exact h.mono hn
 ·rw [Q6 hl];refine hc _ (h.tick hl) (Zh D) ?_;unfold QH
  split <;> rfl
theorem YY {c:FileD→Int×DiskD} (h:Good n D) (hn:n≤m) (hc:∀ f,mget D.files k=some f→Good m (c f).2):Good m (Ym D k c).2:=by
 cases hg:mget D.files k with
 | none=>rw [Jd hg]; exact h.mono hn
 | some f=>rw [QW hg]; exact hc f hg
theorem ZC (h:Good n D) (k:Key):Good (n+1) (QV D k).2:=by
 refine Xt h Qb fun D' h' _ _=>?_
 split
 ·split
  ·exact h'.mono Qb
  ·rename_i hn
   have hg:mget D'.files k=none:=by
    cases hg:mget D'.files k with
    | none=>rfl
    | some f=>rw [hg] at hn; exact absurd rfl hn
   exact h'.put Qb FOk.new ⟨by simp [newFile,pendLen],by simp [newFile]⟩ (by rw [Qqr h'.ok.srt hg Z]; exact h'.ok.used) h'.ok.room (by have:=H9 D'.files k newFile; have:=h'.few; omega)
 ·exact h'.mono Qb
theorem Quj (h:Good n D) (hf:mget D.files k=some f) {at_:Nat} {d:List UInt8} (ha:at_≤f.now.length):Good (n+d.length+1) (Xe D k f at_ d).2:=by
 unfold Xe
 split
 ·exact h.mono Qb
 ·rename_i hd
  split
  ·exact ⟨⟨h.ok.srt,h.ok.lim,h.ok.used,h.ok.room,by have:=h.ok.ref; show 0≤D.refused+1; omega,h.ok.stp,h.ok.fok⟩,fun q g hg=>by have:=h.pend q g hg; omega,by have:=h.ref; show D.refused+1≤_; omega,by have:=h.few; show D.files.length≤_; omega⟩
  ·rename_i hr
   have h1:=HA (f:=Xw f at_ d) h.ok.srt hf;have h2:(Xw f at_ d).now.length=max f.now.length (at_+d.length):=Jz ha;have h3:=h.ok.used;have h4:=h.pend k f hf;refine h.put Qb ((h.ok.fok k f hf).laid ha hd) ?_ ?_ Qb (by rw [Yp h.ok.srt hf]; have:=h.few; omega)
   ·show pendLen (f.pend++[(at_,d)])≤_∧(f.pend++[(at_,d)]).length≤_
    rw [ZX,List.length_append];simp only [pendLen,List.length_singleton]
    omega
   ·unfold KC
    omega
theorem JB (h:Good n D) (k:Key) (d:List UInt8):Good (n+d.length+1) (QI D k d).2 :=
 Xt h Qb fun _ h' _ _=>YY h' Qb fun _ hf=>Quj h' hf (Nat.le_refl _)
theorem YK (h:Good n D) (k:Key):Good n (Ku D k).2 :=
 Xt h (Nat.le_refl _) fun D' h' _ _=>YY h' (Nat.le_refl _) fun f hf =>
  h'.put (u:=D'.used) (Nat.le_refl _) (FOk.lasts f) ⟨by simp [KY,pendLen],by simp [KY]⟩ (by
   have h1:=HA (f:=KY f) h'.ok.srt hf;have h2:=h'.ok.used;have h3:(KY f).now.length=f.now.length:=rfl
   omega) h'.ok.room (by rw [Yp h'.ok.srt hf]; exact h'.few)
theorem ZU (h:Good n D) (k:Key):Good n (Q7 D k).2 :=
 Xt h (Nat.le_refl _) fun D' h' _ _=>YY h' (Nat.le_refl _) fun f hf=>h'.del (by
  have h1:=HD (m:=D'.files) k;rw [hf] at h1;have h2:=h'.ok.used;simp only [Option.map_some,Option.getD_some] at h1
  omega)
theorem Qjq (h:Good n D) (a b:Key):Good n (Kx D a b).2:=by
 refine Xt h (Nat.le_refl _) fun D' h' _ _=>?_
 split
 ·refine YY h' (Nat.le_refl _) fun f hf=>?_
  split
  ·exact h'
  ·rename_i hab
   have h1:=HD (m:=D'.files) a;rw [hf] at h1;simp only [Option.map_some,Option.getD_some] at h1;have hd:=h'.del (k:=a) (u:=usedM (mdel D'.files a)) rfl;have h2:=Ve (hd.ok.srt) b f
   have h3:mget (mdel D'.files a) b=mget D'.files b:=by
    rw [J0 h'.ok.srt.nodup,if_neg (fun e=>hab e.symm)]
   replace h2:usedM (sput (mdel D'.files a) b f)+Qcw D' b=usedM (mdel D'.files a)+f.now.length:=by
    rw [← h2];unfold Qcw
    show _=_+((mget (mdel D'.files a) b).map _).getD 0
    rw [h3]
   have h4:=h'.ok.used;have h5:=h'.ok.room;have h6:=h'.pend a f hf;exact hd.put (u:=D'.used-Qcw D' b) (Nat.le_refl _) (h'.ok.fok a f hf) h6 (by show _=((usedM (sput (mdel D'.files a) b f):Nat):Int); omega) (by show _≤D'.limit; omega) (by have h7:=H9 (mdel D'.files a) b f; have h8:=Qba hf; have h9:=h'.few; show (sput (mdel D'.files a) b f).length≤n; omega)
 ·exact h'
theorem Qug (h:Good n D) (k:Key) (i:Int) (c:UInt8):Good n (rotM D k i c).2 :=
 YY h (Nat.le_refl _) fun f hf=>by
  split
  ·exact h
  ·exact h.put (u:=D.used) (f:=⟨f.now.set i.toNat c,f.now.set i.toNat c,[]⟩) (Nat.le_refl _) ⟨Z,tvA⟩ ⟨by simp [pendLen],by simp⟩ (by
    have h1:=HA (f:=⟨f.now.set i.toNat c,f.now.set i.toNat c,[]⟩) h.ok.srt hf;have h2:=h.ok.used;simp only [List.length_set] at h1
    omega) h.ok.room (by rw [Yp h.ok.srt hf]; exact h.few)
theorem crashAll_keys:∀ (l:List (Key×FileD)) (ks:List Int),(crashAll l ks).map (·.1)=l.map (·.1)
 | [],_=>rfl
 | p::l,ks=>by rw [crashAll,List.map_cons,List.map_cons,crashAll_keys l]
theorem crashAll_get:∀ (l:List (Key×FileD)) (ks:List Int) (k:Key) (g:FileD),mget (crashAll l ks) k=some g→∃ f i,mget l k=some f∧g=ZQ f i
 | [],_,_,_,h=>by cases h
 | p::l,ks,k,g,h=>by
  unfold crashAll at h;unfold mget at h ⊢
  split at h
  ·rename_i hk
   injection h with h;rw [if_pos hk];exact ⟨_,_,Z,h.symm⟩
  ·rename_i hk
   rw [if_neg hk];exact crashAll_get l _ k g h
theorem crashAll_used:∀ (l:List (Key×FileD)) (ks:List Int),(∀ p∈l,FOk p.2)→usedM (crashAll l ks)≤usedM l
 | [],_,_=>Nat.le_refl _
 | p::l,ks,h=>by
  unfold crashAll usedM;have h1:=crashAll_used l ks.tail (fun q hq=>h q (by simp [hq]));have h2:=(h p Q0).crash_len (KP p.2 (ks.head?.getD 0));simp only
  omega
theorem Qjp {m m':List (Key×FileD)} (h:Rising m) (he:m'.map (·.1)=m.map (·.1)):Rising m':=by
 have h1:(m.map (·.1)).Pairwise (· < ·):=by rw [List.pairwise_map]; exact h
 rw [← he,List.pairwise_map] at h1;exact h1
theorem Qoh (h:Good n D) (ks:List Int):Good n (Ut D ks):=by
 have hs:=Qjp h.ok.srt (crashAll_keys D.files ks);refine ⟨⟨hs,h.ok.lim,Z,?_,h.ok.ref,(fun e=>by cases e),fun q g hg=>?_⟩,fun q g hg=>?_,h.ref,by have h4:=congrArg List.length (crashAll_keys D.files ks); simp only [List.length_map] at h4; show (crashAll D.files ks).length≤n; rw [h4]; exact h.few⟩
 ·have h1:=crashAll_used D.files ks (fun p hp=>h.ok.fok p.1 p.2 (Yj h.ok.srt.nodup hp));have h2:=h.ok.used;have h3:=h.ok.room
  show ((usedM (crashAll D.files ks):Nat):Int)≤D.limit
  omega
 ·obtain ⟨f,i,_,rfl⟩:=crashAll_get _ _ _ _ hg;exact FOk.crash f i
 ·obtain ⟨f,i,_,rfl⟩:=crashAll_get _ _ _ _ hg;exact ⟨by simp [ZQ,pendLen],by simp [ZQ]⟩
end
end
section
open Go.RowKit
theorem Qfb {l:List (Nat×List UInt8)} {j:Nat} {x:Nat×List UInt8} (h:l[j]?=some x):pendLen (l.take (j+1))=pendLen (l.take j)+x.2.length:=by
 rw [QK h,ZX];simp [pendLen]
theorem Qro {l:List (Nat×List UInt8)} {j:Nat} {x:Nat×List UInt8} (h:l[j]?=some x):l.drop j=x::l.drop (j+1):=by
 obtain ⟨hj,rfl⟩:=List.getElem?_eq_some_iff.1 h;exact List.drop_eq_getElem_cons hj
theorem Qay (l:List (Nat×List UInt8)) (j:Nat):pendLen (l.take j)≤pendLen l:=by
 conv=>rhs; rw [← List.take_append_drop j l,ZX]
 omega
theorem Qfk (p n:Int):(p.tmod n+n)%n=p%n:=by
 rw [Int.tmod_def,Int.add_emod_right];rw [Int.sub_eq_add_neg,← Int.mul_neg,Int.add_mul_emod_self_left]
theorem Qkp (g:Nat) (vl vn vp:Value) (f:FileD) (pick:Int) (w:World) (hB:Blk w g 117 #[vl,vn,vp]) (hP:Row w 163 2 vp f.pend.length (f.pend.flatMap QR)) (hl:pendLen f.pend≤1099511627776) :
  Calls Tryz.prog 48 #[.pointer (some ⟨g,0,none⟩),.int .i64 pick] w fun e w'=>e=.returned (.int .i64 (KP f pick))∧Below w.heap.size w w':=by
 obtain ⟨a,c,rfl,hc1,hc2⟩:=hP.shape;have hnn:=hP.nle
 obtain ⟨l,hfl⟩:∃ l,f.pend=l:=⟨_,rfl⟩
 unfold KP;rw [hfl] at hP hB hl hc1 hnn ⊢
 refine Qj (args:=[.pointer (some ⟨g,0,none⟩),.int .i64 pick]) 30 Tryz.func48 Z Z Z<|Qt [(0,.pointer (some ⟨g,0,none⟩)),(1,.int .i64 pick)] ?_ ⟨Z,Z,tvA⟩
 have bw:=Below.refl w.heap.size w
 refine Qa<|sa Z Z<|Wn<|tN<|Qa<|sa Z Z<|Wn<|tN<|Qe<|Qa<|sm Z Z<|st (Qc Z) Z<|st (Qk XX Z) Z<|st (Qi Z hB uz115 Z Z) Z<|st (QT Z Z uz115) Z<|sm Z Z<|Wn<|tN<|Qp<|JG (fun nw1_ lw1_ w1=>∃ j:Nat,nw1_=l.length-j∧lw1_=([(1,.int .i64 pick),(5,.int .i64 (1+(pendLen (l.take j):Nat))),(11,.slice a l.length c),(12,.int .i64 l.length),(13,.int .i64 j)]:Env)∧(j≤l.length)∧(Below w.heap.size w w1)∧(Row w1 163 2 (.slice a l.length c) l.length (l.flatMap QR))) _ ⟨_,⟨0,Z,Z,by omega,bw,hP.bel bw⟩,⟨Z,Z,Z,Z,Z,tvA⟩⟩ ?_
 clear bw;rintro nw1_ lw1_ w1 ⟨j,rfl,rfl,hj,bw,hP⟩;have zz1:=bw.size
 refine Qa<|st (QJ Z Z) Z<|Wn<|tN<|Qe<|Qx Z (fun h14=>?_) (fun h14=>?_)
 ·replace h14:=Qs h14
  obtain ⟨x,hx⟩:∃ x,l[j]?=some x:=⟨_,List.getElem?_eq_getElem Qb⟩
  obtain ⟨g1,o1,c',hv,hg1⟩:=hP.reads.some_ Qb;injection hv with e1 _ e3;subst e1 e3;have hle:=Qay l (j+1);rw [Qfb hx] at hle
  refine Qf<|tN<|Qe<|Qp<|Qa<|st (QA Z Z uz115 siz163 Z Qb) Z<|st (Jw (cs:=QR x) Z Tryz.underlying163 Z siz163 (hP.reads.rec_ (fun p _=>J7 p) hx)) Z<|Jm inf163 Z (fun g7 w2 hB7 hg7 hb hl7=>?_)
  have pq:=hb;replace bw:=Ql bw hb;have zz2:=hb.size;clear hb;refine QY Z Z hB7 siz163 Z Z (fun w3 bB cC=>?_);replace hB7:=bB;clear bB;replace pq:=Ji pq cC Qb;replace bw:=Ji bw cC Qb;have zz3:=cC.size;clear cC
  refine Wn<|tN<|Qw<|sm Z Z<|st (Qk Qhw Z) Z<|st (Qi Z hB7 uz9 Z Z) Z<|st (QP (s:=x.2) Z Z uz9) Z<|st (Qn Z Z Qb) Z<|sa Z Z<|Wn<|bN<|tN<|Qw<|st (Qn Z Z Qb) Z<|sm Z Z<|Wn ?_
  replace hP:=hP.bel pq;clear pq;refine tN ⟨_,_,?_,⟨j+1,Z,Z,by omega,bw,hP⟩,⟨Z,by rw [Qfb hx,Int.natCast_add,Int.add_assoc]; rfl,Z,Z,Z,tvA⟩⟩
  omega
 ·replace h14:=Qs h14
  obtain rfl:j=l.length:=by omega
  rw [List.take_length];have ht1:=Int.tmod_lt_of_pos pick (b:=1+(pendLen l:Nat)) Qb;have ht2:=Int.lt_tmod_of_pos pick (b:=1+(pendLen l:Nat)) Qb
  obtain ⟨q,hq⟩:∃ q,pick.tmod (1+(pendLen l:Nat))=q:=⟨_,rfl⟩
  rw [hq] at ht1 ht2
  refine QQ<|tE<|tE<|bH<|tN<|Qa<|sm Z Z<|sm Z Z<|st (Qlr Z Z Qb hq) Z<|sm Z Z<|st (Qn Z Z Qb) Z<|sm Z Z<|st (Yc Z Z Qb Qb) Z<|sa Z Z<|Wn<|tN<|Qg<|(rT Z Z ⟨?_,bw⟩).1
  have h5:=Int.emod_nonneg pick (b:=1+(pendLen l:Nat)) Qb;rw [← hq,Qfk,show ((pendLen l+1:Nat):Int)=1+(pendLen l:Nat) by omega,Int.toNat_of_nonneg h5]
theorem Qqv {α:Type} (l:List α) (k:Nat):l.take (min k l.length)=l.take k:=by
 rcases Nat.le_total k l.length with h|h
 ·rw [Nat.min_eq_left h]
 ·rw [Nat.min_eq_right h,List.take_length,List.take_of_length_le h]
theorem Qfv (r:FRec) (keep:Nat) (w:World) (h:FileAt w r) (hpl:pendLen r.f.pend≤1099511627776) (hll:r.f.last.length≤1099511627776) (hkp:keep≤4398046511104) :
  Calls Tryz.prog 47 #[.pointer (some ⟨r.blk,0,none⟩),.int .i64 keep] w fun e w'=>e=.returned (.tuple #[])∧∃ r',FileAt w' r'∧r'.blk=r.blk∧r'.f=ZQ r.f keep∧(∀ k,r'.owns k→r.owns k∨w.heap.size≤k)∧Chg r.owns w w':=by
 have hF:=h.blk;have hLa:=h.last;have hPe:=h.pend;have hflt:=hF.lt;obtain ⟨ap,cp,hvp,hcp,hcp2⟩:=hPe.shape;obtain ⟨al,cl,hvl,hcl,hcl2⟩:=hLa.shape;have hnn:=hPe.nle
 obtain ⟨l,hfl⟩:∃ l,r.f.pend=l:=⟨_,rfl⟩
 rw [hfl] at hPe hpl hcp hnn hvp;rw [hvl] at hF hLa;rw [hvp] at hF hPe
 refine Qj (args:=[.pointer (some ⟨r.blk,0,none⟩),.int .i64 keep]) 55 Tryz.func47 Z Z Z<|Qt [(0,.pointer (some ⟨r.blk,0,none⟩)),(1,.int .i64 keep)] ?_ ⟨Z,Z,tvA⟩
 have hcw:=Chg.refl (r.owns) w
 refine Qe<|Qa<|sm Z Z<|st (Qc Z) Z<|st (Qk XX Z) Z<|st (Qi Z hF uz115 Z Z) Z<|st (QT Z Z uz115) Z<|sm Z Z<|Wn<|tN<|Qp<|JG (fun nw1_ lw1_ w1=>∃ j:Nat,∃ a1:Option Addr,∃ c1:Nat,∃ s:List UInt8,∃ kp:Nat,nw1_=l.length-j∧lw1_=([(0,.pointer (some ⟨r.blk,0,none⟩)),(1,.int .i64 kp),(10,.slice ap l.length cp),(11,.int .i64 l.length),(12,.int .i64 j)]:Env)∧(j≤l.length)∧(kp≤4398046511104)∧(s.length+pendLen (l.drop j)≤4398046511104)∧(crashBytes r.f.last l keep=crashBytes s (l.drop j) kp)∧(Chg r.owns w w1)∧(Blk w1 r.blk 117 #[.slice a1 s.length c1,r.vn,.slice ap l.length cp])∧(Row w1 5 1 (.slice a1 s.length c1) s.length (s.map bv))∧(Row w1 163 2 (.slice ap l.length cp) l.length (l.flatMap QR))∧(∀ k,(Value.slice a1 s.length c1).ownBlock=some k→r.vl.ownBlock=some k∨w.heap.size≤k)) _ ⟨_,⟨0,al,cl,r.f.last,keep,Z,Z,by omega,hkp,by rw [List.drop_zero]; omega,by rw [List.drop_zero],hcw,hF,hLa,hPe,fun k hk=>.inl (by rw [hvl]; exact hk)⟩,⟨Z,Z,Z,Z,Z,tvA⟩⟩ ?_
 clear hcw hF hLa hPe;rintro nw1_ lw1_ w1 ⟨j,a1,c1,s,kp,rfl,rfl,hj,hkb,hsl,heq,hcw,hF,hLa,hPe,hO⟩;have hlt_hF_w1:=hF.lt;have hzc:=hcw.size
 refine Qa<|st (QJ Z Z) Z<|Wn<|tN<|Qe<|Qx Z (fun h13=>?_) (fun h13=>?_)
 ·replace h13:=Qs h13
  obtain ⟨x,hx⟩:∃ x,l[j]?=some x:=⟨_,List.getElem?_eq_getElem Qb⟩
  obtain ⟨g1,o1,c',hv,hg1⟩:=hPe.reads.some_ Qb;injection hv with e1 _ e3;subst e1 e3;have hdj:=Qro hx;rw [hdj] at heq hsl
  have hptl:(x.2.take (min kp x.2.length)).length=min kp x.2.length:=by rw [List.length_take]; omega
  have hsl3:s.length+(x.2.length+pendLen (l.drop (j+1)))≤4398046511104:=hsl
  refine Qf<|tN<|Qe<|Qp<|Qa<|st (QA Z Z uz115 siz163 Z Qb) Z<|st (Jw (cs:=QR x) Z Tryz.underlying163 Z siz163 (hPe.reads.rec_ (fun p _=>J7 p) hx)) Z<|Jm inf163 Z (fun g5 w2 hB5 hg5 hb hl5=>?_)
  have pq:=hb;replace hcw:=hcw.then_below hb;replace hF:=hF.bel hb;have zz2:=hb.size;clear hb;refine QY Z Z hB5 siz163 Z Z (fun w3 bB cC=>?_);replace hB5:=bB;clear bB;replace pq:=Ji pq cC Qb;replace hF:=hF.chg cC Z5;replace hcw:=hcw.next cC KO;have zz3:=cC.size;clear cC
  refine Wn<|tN<|Qa<|st (Qk Qhw Z) Z<|st (Qi Z hB5 uz9 Z Z) Z<|sm Z Z<|st (Qk Qhw Z) Z<|st (Qi Z hB5 uz9 Z Z) Z<|st (QP (s:=x.2) Z Z uz9) Z<|st (Qop (r:=(min kp x.2.length:Nat)) Z Z (by split <;> omega)) Z ?_
  refine st (KQ (s:=x.2) Z Z uz9 Z Qb) Z<|sa Z Z<|Wn<|tN<|Qa<|sm Z Z<|sm Z Z<|st (QP Z Z uz9) Z<|st (JU Z Z Qb) Z<|sa Z Z<|Wn<|tN<|W_float 14 Qo Qo ?_
  obtain ⟨w4,hw_,hb⟩:=QN w3;rw [← hw_];clear hw_;replace pq:=Ql pq hb;replace hcw:=hcw.then_below hb;replace hF:=hF.bel hb;replace hB5:=hB5.bel hb;have zz4:=hb.size;clear hb
  refine fY (Qd Z) Z<|fY (Qd Z) Z<|fY (Qc Z) Z<|fY (Qk VV Z) Z<|fY (Qi Z hF uz114 Z Z) Z<|fY (Qk fa163_0 Z) Z<|fY (Qi Z hB5 uz3 Z Z) Z<|fY (Qd Z) Z<|fY (Qc Z) Z<|fY (Qk VV Z) Z<|fY (Qi Z hF uz114 Z Z) Z<|fY (QT Z Z uz114) Z<|fY (Qop (r:=(min x.1 s.length:Nat)) Z Z (by split <;> omega)) Z ?_
  refine fY (Qd Z) Z<|fN ?_
  replace hPe:=hPe.bel pq;replace hLa:=hLa.bel pq;clear pq
  refine sc _ Tryz.func97 Z Qo Z Z<|(Qjy _ s (min x.1 s.length) (x.2.take (min kp x.2.length)) _ hLa Qb Qb Qb).mono ?_
  rintro e_ w5 ⟨v',rfl,hR4,hC4,hO4⟩;refine cR ?_;obtain ⟨a2,c2,rfl,hc4,_⟩:=hR4.shape;have hzc4:=hcw.size;have hF4:=hF.chg hC4 (fun e=>hLa.ne2 hF QF _ e rfl);have hPe4:=hPe.chg hC4 (fun k hk=>hPe.apart_ hLa QF k hk);have hcw4:=hcw.next hC4 (fun i hi=>(hO i hi).imp (fun e=>.inr (.inl e)) id)
  have hO5:∀ k,(Value.slice a2 (JH s (min x.1 s.length) (x.2.take (min kp x.2.length))).length c2).ownBlock=some k→r.vl.ownBlock=some k∨w.heap.size≤k:=fun k hk=>(hO4 k hk).elim (hO k) (fun e=>.inr Qb)
  clear hF hPe hLa hcw hO
  refine st (Qc Z) Z<|st (Qk VV Z) Z<|KL Z Z hF4 siz114 Z Q0 (fun w6 hF hC5=>?_)
  have hcw:=hcw4.next hC5 (fun i hi=>.inl (.inl hi));have hLa:=hR4.chg hC5 (hR4.ne2 hF4 QF);have hPe:=hPe4.chg hC5 (hPe4.ne2 hF4 QF);have hO:=hO5;clear hcw4 hF4 hPe4 hR4 hO5;have hol:=Jz (l:=s) (at_:=min x.1 s.length) (d:=x.2.take (min kp x.2.length)) Qb
  have hsl2:(JH s (min x.1 s.length) (x.2.take (min kp x.2.length))).length+pendLen (l.drop (j+1))≤4398046511104:=by omega
  have heq2:crashBytes r.f.last l keep=crashBytes (JH s (min x.1 s.length) (x.2.take (min kp x.2.length))) (l.drop (j+1)) (kp-min kp x.2.length):=by
   rw [heq,Qqv]
   rfl
  refine Wn<|nN<|bN<|tN<|Qw<|st (Qn Z Z Qb) Z<|sm Z Z<|Wn<|tN ⟨_,_,?_,⟨j+1,a2,c2,JH s (min x.1 s.length) (x.2.take (min kp x.2.length)),kp-min kp x.2.length,Z,Z,by omega,by omega,hsl2,heq2,hcw,hF,hLa,hPe,hO⟩,⟨Z,by rw [show ((kp-min kp x.2.length:Nat):Int)=(kp:Int)-((x.2.take (min kp x.2.length)).length:Nat) by omega]; rfl,Z,Z,Z,tvA⟩⟩
  omega
 ·replace h13:=Qs h13
  obtain rfl:j=l.length:=by omega
  have heq':s=crashBytes r.f.last l keep:=by
   rw [heq,List.drop_length]
   rfl
  refine QQ<|tE<|tE<|bH<|tN<|Qa<|sm Z Z<|sm Z Z<|st (Qc Z) Z<|st (Qk VV Z) Z<|st (Qi Z hF uz114 Z Z) Z<|st (Qc Z) Z<|st (Qk Zr Z) Z<|KL Z Z hF siz114 hLa.one1 Q0 (fun w7 hF6 hC6=>?_)
  have hcw6:=hcw.next hC6 (fun i hi=>.inl (.inl hi));have hLa6:=hLa.chg hC6 (hLa.ne2 hF QF);have hzc6:=hcw6.size;clear hF hLa hPe hcw;have hcw:=hcw6;have hF:=hF6
  refine Wn<|tN<|Qw<|sm Z Z<|sc _ Tryz.func59 Z Qo Z Z<|(HS r.blk _ _ _ s _ hF6 hLa6 (by have:=hsl; omega)).mono ?_
  rintro e_ w8 ⟨rfl,vl',hF7,hV7,hN7,hO7,hC7⟩;refine cR ?_;clear hcw hF;have hcw:=hcw6.next hC7 (fun i hi=>.inl (.inl hi));have hF:=hF7
  have hcr:ZQ r.f keep=⟨s,s,[]⟩:=by rw [ZQ,hfl,← heq']
  have hap:∀ k,vl'.ownBlock=some k→(Value.slice a1 s.length c1).ownBlock≠some k:=fun k hk hk2=>by
   obtain ⟨cs,fz,e⟩:=hLa6.heap_cells hk2
   have:=(Array.getElem?_eq_some_iff.1 e).1
   have:=hO7 k hk
   omega
  have how:∀ k,FRec.owns ⟨r.blk,vl',.slice a1 s.length c1,.slice none 0 0,⟨s,s,[]⟩⟩ k→r.owns k∨w.heap.size≤k:=by
   rintro k (hk|hk|hk|hk)
   ·exact .inl<|.inl hk
   ·exact .inr (by have:=hO7 k hk; omega)
   ·exact (hO k hk).imp (fun e=>.inr (.inl e)) id
   ·simp [Value.ownBlock] at hk
  refine Wn ?_;exact (r0 Z ⟨Z,⟨r.blk,vl',.slice a1 s.length c1,.slice none 0 0,⟨s,s,[]⟩⟩,⟨hF7,hV7,hN7,Row.nil _ _ _,hap⟩,Z,hcr.symm,how,hcw⟩).2
end
section
open Go.RowKit Go.Shelf
theorem wideT:Wide Fence.wide:=fun _=>trivial
theorem Qnk (n:Nat) (w:World) (gB b:Nat) (m:List (Key×Nat)) (hB:Blk w gB 48 #[.map (some b)]) (hM:MapAt w b Qv ZP m) :
  SeqGives Fence.wide n Tryz.prog 135 #[.pointer (some ⟨gB,0,none⟩)] encStr (fun xs=>xs.Perm (m.map (·.1))) m.length w:=by
 intro lp J W hW hJ hY h0;replace hB:Blk W gB 48 #[.map (some b)]:=hB.bel hW;replace hM:MapAt W b Qv ZP m:=hM.bel hW;have hgB:=hB.lt
 refine callsIn_wide.2<|Qj (args:=[.func (.yield lp) #[] #[],.pointer (some ⟨gB,0,none⟩)]) 14 Tryz.func135 Z Z Z<|Qt [(0,.func (.yield lp) #[] #[]),(1,.pointer (some ⟨gB,0,none⟩))] ?_ ⟨Z,Z,tvA⟩
 refine Qa<|st (Qi Z hB uz48 Z Z) Z ?_
 obtain ⟨w1,hr1,hI1,hb1⟩:=hM.iter (P:=Tryz.prog) 48 uz48;refine st (w':=w1) (v:=.pointer (some ⟨W.heap.size,0,none⟩)) (fun ρ hρ=>by unfold execOp; simp only [hρ (.tmp 4) _ Z,Sem.run_bind,hr1,Result.andThen_ok,Sem.run_pure]) Z ?_
 refine Wn<|tN ?_
 have hJ1:J [] w1:=hJ [] W w1 none h0 (VR hb1) (fun r e=>by cases e);refine Qp ?_;have hz:=hb1.size;clear h0 hB hM hr1;refine JG (fun n' l' w'=>∃ pre:List Key,n'=m.length-pre.length∧l'=([(0,.func (.yield lp) #[] #[]),(5,.pointer (some ⟨W.heap.size,0,none⟩))]:Env)∧IterAt w' W.heap.size b Qv ZP m pre∧J pre w') _ ⟨_,⟨[],Z,Z,hI1,hJ1⟩,⟨Z,Z,tvA⟩⟩ ?_;clear hI1 hJ1 hb1 hz w1;rintro n' l' w1 ⟨pre,rfl,rfl,hI,hJ1⟩;refine Qa ?_
 rcases hI.next (P:=Tryz.prog) 0 with ⟨hperm,hr⟩|⟨k,v,w2,hk,hkv,hr,hent,hI2,hC⟩
 ·refine st (w':=w1) (v:=.tuple #[.bool false]) (fun ρ hρ=>by unfold execOp; simp only [hρ (.tmp 5) _ Z,Sem.run_bind,hr,Result.andThen_ok,Sem.run_pure]) Z ?_
  refine st (Qu Z Z) Z<|Wn<|tN<|Qe<|QX Z Z<|QQ<|tE<|tE<|bH ?_
  exact (r0 Z ⟨⟨_,Z⟩,⟨pre,hperm,hJ1⟩⟩).2
 ·refine st (w':=w2) (v:=.tuple #[.bool true,Qv k,ZP v]) (fun ρ hρ=>by unfold execOp; simp only [hρ (.tmp 5) _ Z,Sem.run_bind,hr,Result.andThen_ok,Sem.run_pure]) Z ?_
  refine st (Qu Z Z) Z<|Wn<|tN<|Qe<|QO Z Z<|Qf<|tN<|Qp<|Qe<|Qw ?_
  have hJ2:J pre w2:=hJ pre w1 w2 (some W.heap.size) hJ1 (Qhd hC) (fun r e=>by cases e; exact ⟨Nat.le_refl _,hI.walk⟩);refine st (w':=w2) (v:=.tuple #[Qv k,ZP v]) (fun ρ hρ=>by unfold execOp; simp only [hρ (.tmp 5) _ Z,Sem.run_bind,hent,Result.andThen_ok,Sem.run_pure]) Z ?_
  refine st (Qu Z Z) Z<|sa Z Z<|Wn<|tN<|Qe<|Qwl (n:=n)<|stI wideT (fun c h=>by cases h) (Qd Z) Z ?_
  refine stI wideT (fun c h=>by cases h) (Qd Z) Z ?_;refine Qtv [Qv k] wideT Z Z Z Z ?_;obtain ⟨fn,tmps,assign,body,hy,hR⟩:=hY pre k w2 hJ2 hI2.more;refine ⟨fn,tmps,assign,body,hy,RoundIn.mono hR (fun e w5 h=>?_)⟩;obtain ⟨rfl,hJ5,hk5⟩:=h;refine stI wideT (fun c h=>by cases h) (Jk Z) Z ?_
  refine WIn<|tN<|QX Z Z<|Qf<|bN<|tN ⟨_,_,?_,⟨pre++[k],Z,Z,hI2.of_walks hk5,hJ5⟩,⟨Z,Z,tvA⟩⟩
  have:=hI2.more
  rw [List.length_append,List.length_singleton]
  omega
def sortRenStr:Ren :=
  { f:=fun x=>match x with|6=>134|8=>168|9=>167|19=>198|20=>199|21=>189|22=>190|23=>191|24=>192|25=>193|26=>194|27=>195|28=>196|29=>197|31=>218|32=>219|36=>217|37=>220|38=>221|39=>222|41=>233|n=>n
    t:=fun x=>match x with|0=>0|3=>3|4=>4|5=>5|9=>9|26=>109|27=>109|29=>9|32=>145|35=>255|36=>256|41=>82|44=>143|46=>151|53=>274|57=>277|63=>288|64=>289|n=>n
    g:=fun x=>x }
def iterRenStr:Ren :=
  { f:=fun x=>match x with|6=>95|7=>96|8=>133|9=>134|10=>135|11=>166|n=>n
    t:=fun x=>match x with|0=>0|3=>111|4=>4|23=>48|24=>109|26=>9|27=>159|28=>160|33=>137|n=>n
    g:=fun x=>x }
def Qus (P : Program) (f : FuncId) : String := ((P.funcs[f]?).map (·.name)).getD ""
theorem Qdw {P : Program} {f : FuncId} {B : Func} (h1 : (Qus P f == "runtime.NumGoroutine") = false) (h2 : P.funcs[f]? = some { B with name := Qus P f }) : Bears P f B := ⟨_, h1, h2⟩
theorem sortLaysStr:SlLaysM.n6 Tryz.prog sortRenStr:=by
 constructor
 all_goals first|exact Qdw Qo Qo|kernel_rfl|exact fun _=>by kernel_rfl
theorem sortedLaysStr:SlLaysZ.n6 Tryz.prog iterRenStr:=by
 constructor
 all_goals first|exact Qdw Qo Qo|kernel_rfl|exact fun _=>by kernel_rfl
theorem keysLaysStr:SlLaysZ.n7 Tryz.prog iterRenStr:=by
 constructor
 all_goals first|exact Qdw Qo Qo|kernel_rfl|exact fun _=>by kernel_rfl
theorem Qub (m:Nat):AnyZ.SortsIn Tryz.prog iterRenStr Fence.wide m :=
  ⟨fun blk off cap ss W hH hblk hsz=>callsIn_wide.2 (AnyM.slices_Sort_string sortLaysStr blk off cap ss W hH hblk hsz),
   fun p cap W=>callsIn_wide.2 (AnyM.slices_Sort_string_none sortLaysStr p cap W)⟩
theorem Qxm (mb:Option Nat) (w:World):Calls Tryz.prog 96 #[.map mb] w fun e w' =>
  ∃ gB,e=.returned (.func (.func 135) #[] #[.pointer (some ⟨gB,0,none⟩)])∧Blk w' gB 48 #[.map mb]∧Below w.heap.size w w':=by
 refine ((callsIn_wide (n:=5)).1 (AnyZ.keys_in keysLaysStr Fence.wide 5 trivial Z mb w)).mono ?_;rintro e w' ⟨rfl,rfl⟩;exact ⟨_,Z,World.alloc_heap_new w _,(Below.refl _ _).alloc (Nat.le_refl _) _⟩
theorem Qgl {l xs:List Key} (hl:l.Pairwise (· < ·)) (hp:xs.Perm l):xs.mergeSort (fun x y=>decide (x≤y))=l:=by
 have tr:∀ a b c:List UInt8,decide (a≤b)=true→decide (b≤c)=true→decide (a≤c)=true:=fun a b c h1 h2=>by
  simp only [decide_eq_true_eq] at *;exact List.le_trans h1 h2
 have to:∀ a b:List UInt8,(decide (a≤b) || decide (b≤a))=true:=fun a b=>by
  simp only [Bool.or_eq_true,decide_eq_true_eq];exact List.le_total a b
 refine List.Perm.eq_of_pairwise (le:=fun a b=>decide (a≤b)=true) (fun a b _ _ h1 h2=>?_) (List.pairwise_mergeSort tr to xs) (hl.imp (fun h=>decide_eq_true (List.le_of_lt h)))<|(List.mergeSort_perm xs _).trans hp
 simp only [decide_eq_true_eq] at h1 h2;exact List.le_antisymm h1 h2
theorem Qeb (gB b:Nat) (m:List (Key×Nat)) (l:List Key) (w:World) (hB:Blk w gB 48 #[.map (some b)]) (hM:MapAt w b Qv ZP m) (hm:m.length≤1000000) (hl:l.Pairwise (· < ·)) (hp:(m.map (·.1)).Perm l) :
  Calls Tryz.prog 95 #[.func (.func 135) #[] #[.pointer (some ⟨gB,0,none⟩)]] w fun e w' =>
   ∃ v,e=.returned v∧Row w' 9 1 v l.length (l.map Qv)∧(∀ k,v.ownBlock=some k→w.heap.size≤k)∧Below w.heap.size w w':=by
 refine ((callsIn_wide (n:=5)).1 (AnyZ.sorted_in sortedLaysStr Fence.wide 5 trivial trivial trivial trivial Z Qb (Qub _) (enters_of Tryz.func134 Qo Z)
  135 #[.pointer (some ⟨gB,0,none⟩)] trivial (enters_of Tryz.func135 Qo rfl) _ m.length (by simp only [maxLen]; omega) Qb w (Qnk _ w gB b m hB hM))).mono ?_
 rintro e w' ⟨v,ss,rfl,hS,hrow,hnil,hb⟩;have e1:=Qgl hl (hS.trans hp);have e2:ss.length=l.length:=(hS.trans hp).length_eq;rw [e1,e2] at hrow;refine ⟨v,Z,Row.of_own hrow,fun k hk=>?_,hb⟩
 rcases hrow.2 with ⟨rfl,_⟩|⟨g,cap,cur,rfl,hg,_⟩
 ·simp [Value.ownBlock] at hk
 ·simp [Value.ownBlock] at hk
  omega
theorem DiskIn.perm {w:World} {g b:Nat} {D:DiskD} {rs:List (Key×FRec)} {S:Nat→Prop} (h:DiskIn w g b D rs S) (hok:Rising D.files):((rs.map fun p=>(p.1,p.2.blk)).map (·.1)).Perm (KA D):=by
 have:=Qfp (m:=rs) (m':=D.files) h.keys hok.nodup (fun k=>by rw [h.files]; cases mget rs k <;> rfl)
 rw [List.map_map];exact this
theorem Qxj (g:Nat) (D:DiskD) (S:Nat→Prop) (w:World) (h:DiskAt w g D S) (hok:Rising D.files) (hlen:D.files.length≤1000000) :
  Calls Tryz.prog 46 #[.pointer (some ⟨g,0,none⟩)] w fun e w'=>∃ v,e=.returned v∧Row w' 9 1 v (KA D).length ((KA D).map Qv)∧(∀ k,v.ownBlock=some k→w.heap.size≤k)∧Below w.heap.size w w':=by
 obtain ⟨b,rs,h⟩:=h;have hB:Blk w g 50 #[.map (some b),.int .i64 D.limit,.int .i64 D.used,.int .i64 D.refused,.bool D.stops,.int .i64 D.left]:=h.blk;have hM:=h.map;have hp:=h.perm hok
 have hz0:(rs.map fun p=>(p.1,p.2.blk)).length≤1000000:=by
  have:=hp.length_eq
  simp only [List.length_map,KA] at this ⊢
  omega
 have hr:(KA D).Pairwise (· < ·):=by
  unfold KA;rw [List.pairwise_map];exact hok
 refine Qj (args:=[.pointer (some ⟨g,0,none⟩)]) 11 Tryz.func46 Z Z Z<|Qt [(0,.pointer (some ⟨g,0,none⟩))] ?_ ⟨Z,tvA⟩
 have bw:=Below.refl w.heap.size w
 refine Qa<|sa Z Z<|Wn<|tN<|Qe<|Qa<|sm Z Z<|st (Qam Z) Z<|Wn<|tN<|QX Z (Z)<|Qf<|tN<|Qa<|sm Z Z<|st (Qc Z) Z<|st (Qk KF Z) Z<|st (Qi Z hB uz48 Z Z) Z<|sc _ Tryz.func96 Z Qo Z Z<|(Qxm (some b) _).mono ?_
 rintro e_ w1 ⟨gB,rfl,hK,hb⟩;refine cR ?_;replace bw:=Ql bw hb;replace hM:=hM.bel hb;have zz1:=hb.size;clear hb
 refine sc _ Tryz.func95 Z Qo Z Z<|(Qeb gB b _ (KA D) _ hK hM hz0 hr hp).mono ?_
 rintro e_ w2 ⟨v,rfl,hR,hO,hb⟩;refine cR ?_;replace bw:=Ql bw hb;replace hM:=hM.bel hb;have zz2:=hb.size;clear hb
 refine sa Z Z<|Wn<|tN<|Qg ?_
 exact (rT Z Z ⟨v,Z,hR,fun k hk=>by have:=hO k hk; omega,bw⟩).1
end
section
open Go.RowKit
theorem Reads.chgS {w w':World} {size n:Nat} {v:Value} {xs:List Value} {T:Nat→Prop} (h:Reads w size v n xs) (hc:Chg T w w') (hn:0<n→∀ k,v.ownBlock=some k→¬T k):Reads w' size v n xs:=by
 obtain ⟨h1,a,cap,rfl,h3,h4,h5⟩:=h;refine ⟨h1,a,cap,Z,h3,h4,fun h0=>?_⟩;obtain ⟨g',off,rfl,hg,hcl⟩:=h5 h0
 have:=hc.size
 exact ⟨g',off,Z,by omega,fun j u hu=>(hc.cell (p:=⟨g',off+j,none⟩) hg (hn h0 g' (by simp [Value.ownBlock]))).trans (hcl j u hu)⟩
theorem Reads.ownLt {w:World} {size n:Nat} {v:Value} {xs:List Value} (h:Reads w size v n xs) (hn:0<n) {k:Nat} (hk:v.ownBlock=some k):k<w.heap.size:=by
 obtain ⟨h1,a,cap,rfl,h3,h4,h5⟩:=h;obtain ⟨g',off,rfl,hg,hcl⟩:=h5 hn;simp [Value.ownBlock] at hk
 omega
theorem FileAt.ne_row {w:World} {r:FRec} (h:FileAt w r) {e:TypeId} {size n:Nat} {v:Value} {xs:List Value} (hR:Row w e size v n xs) (h1:e≠117) (h2:e≠5) (h3:e≠163):∀ k,v.ownBlock=some k→¬r.owns k:=fun k hk ho=>by
 obtain ⟨cs',t',fz,e',ht⟩:=h.cells ho;obtain ⟨cs,fz2,e2⟩:=hR.heap_cells hk;rw [e2] at e';injection e' with e';injection e' with _ e';subst e';exact ht.elim h1 (fun h=>h.elim h2 h3)
theorem crashAll_at:∀ (l:List (Key×FileD)) (ks:List Int) (i:Nat) (p:Key×FileD),l[i]?=some p→(crashAll l ks)[i]?=some (p.1,ZQ p.2 (KP p.2 (ks[i]?.getD 0)))
 | [],_,_,_,h=>by simp at h
 | q::l,ks,0,p,h=>by
  simp only [List.getElem?_cons_zero,Option.some.injEq] at h;subst h
  cases ks <;> rfl
 | q::l,ks,i+1,p,h=>by
  simp only [List.getElem?_cons_succ] at h
  have:=crashAll_at l ks.tail i p h
  simp only [crashAll,List.getElem?_cons_succ,this]
  cases ks <;> rfl
theorem Uh {ν:Type} (a b:List (Key×ν)) (k:Key):mget (a++b) k=(mget a k).or (mget b k):=by
 induction a with
 | nil=>rfl
 | cons p a ih =>
  obtain ⟨x,u⟩:=p;simp only [List.cons_append,mget]
  split
  ·rfl
  ·exact ih
def Ub (D:DiskD) (ks:List Int) (i:Nat):DiskD:={ D with files:=(crashAll D.files ks).take i++D.files.drop i,used:=usedM ((crashAll D.files ks).take i),stops:=false }
theorem Yz (a b:List (Key×FileD)):usedM (a++b)=usedM a+usedM b:=by
 induction a with
 | nil=>simp [usedM]
 | cons p a ih=>simp only [List.cons_append,usedM,ih]; omega
section
variable {D:DiskD} {ks:List Int} {i:Nat} {p:Key×FileD}
theorem mid_zero:Ub D ks 0={ D with used:=0,stops:=false }:=by simp [Ub,usedM]
theorem mid_all:Ub D ks D.files.length=Ut D ks:=by
 have h:(crashAll D.files ks).length=D.files.length:=by simpa using congrArg List.length (crashAll_keys D.files ks)
 unfold Ub Ut;rw [List.take_of_length_le Qb,List.drop_length,List.append_nil]
theorem mid_get (hs:Rising D.files) (hp:D.files[i]?=some p):mget (Ub D ks i).files p.1=some p.2 ∧
  (∀ m,mget (Ub D ks (i+1)).files m=if m=p.1 then some (ZQ p.2 (KP p.2 (ks[i]?.getD 0))) else mget (Ub D ks i).files m) ∧
  (Ub D ks (i+1)).used=(Ub D ks i).used+((ZQ p.2 (KP p.2 (ks[i]?.getD 0))).now.length:Nat):=by
 have hc:=crashAll_at D.files ks i p hp
 have hd:D.files.drop i=p::D.files.drop (i+1):=by
  obtain ⟨hj,rfl⟩:=List.getElem?_eq_some_iff.1 hp;exact List.drop_eq_getElem_cons hj
 have ht:=QK hc
 have hnone:mget ((crashAll D.files ks).take i) p.1=none:=by
  rw [JZ,List.map_take,crashAll_keys,← List.map_take];have h1:=hs.nodup;rw [← List.take_append_drop i D.files,hd,List.map_append,List.map_cons,List.nodup_append] at h1;intro h2;exact h1.2.2 _ h2 _ (List.mem_cons_self ..) Z
 refine ⟨?_,fun m=>?_,?_⟩
 ·show mget (_++_) _=_
  rw [Uh,hnone,hd];obtain ⟨a,u⟩:=p;simp [mget]
 ·show mget (_++_) _=if _ then _ else mget (_++_) _
  rw [ht,Uh,Uh,Uh,hd];obtain ⟨a,u⟩:=p;simp only [mget]
  split
  ·rename_i e
   subst e;rw [hnone]
   simp
  ·simp
 ·show ((usedM _:Nat):Int)=((usedM _:Nat):Int)+_
  rw [ht,Yz];simp only [usedM]
  omega
theorem Quu (hok:DOk D):0≤(Ub D ks i).used∧(Ub D ks i).used≤16777216:=by
 have h1:=crashAll_used D.files ks (fun p hp=>hok.fok p.1 p.2 (Yj hok.srt.nodup hp));have h2:=hok.used;have h3:=hok.room;have h4:=hok.lim
 have h5:usedM ((crashAll D.files ks).take i)≤usedM (crashAll D.files ks):=by
  conv=>rhs; rw [← List.take_append_drop i (crashAll D.files ks),Yz]
  omega
 show 0≤((usedM _:Nat):Int)∧((usedM _:Nat):Int)≤_
 omega
end
theorem Qcx {f:FileD} (pk:Int) (h:pendLen f.pend≤1099511627776):KP f pk≤4398046511104:=by
 have h1:=Int.emod_lt_of_pos pk (b:=((pendLen f.pend+1:Nat):Int)) Qb;unfold KP
 omega
theorem Qkf (b:Nat) (D:DiskD) (ks:List Int) (i:Nat):Z7 b (Ub D ks i)=#[.map (some b),.int .i64 D.limit,.int .i64 (Ub D ks i).used,.int .i64 D.refused,.bool false,.int .i64 D.left]:=rfl
theorem Qtc (g:Nat) (D:DiskD) (S:Nat→Prop) (vk:Value) (ks:List Int) (w:World) (h:DiskAt w g D S) (hok:DOk D) (hbud:DBud D) (hlen:D.files.length≤1000000) (hK:Reads w 1 vk ks.length (ks.map fun k=>.int .i64 k)) (hKS:0<ks.length→∀ k,vk.ownBlock=some k→¬S k) :
  Calls Tryz.prog 16 #[.pointer (some ⟨g,0,none⟩),vk] w fun e w'=>e=.returned (.tuple #[])∧DiskAt w' g (Ut D ks) (Ext S w w')∧Chg S w w':=by
 obtain ⟨b,rs,h⟩:=h;have hlt:=h.blk.lt
 have hKlt:0<ks.length→∀ k,vk.ownBlock=some k→k<w.heap.size:=fun h0 k hk=>hK.ownLt h0 hk
 obtain ⟨ak,ck,hvk,hck,hck2⟩:=hK.shape;subst hvk;have hB:Blk w g 50 #[.map (some b),.int .i64 D.limit,.int .i64 D.used,.int .i64 D.refused,.bool D.stops,.int .i64 D.left]:=h.blk;have hD:=h
 have hnl:(KA D).length=D.files.length:=by simp [KA]
 refine Qj (args:=[.pointer (some ⟨g,0,none⟩),.slice ak ks.length ck]) 56 Tryz.func16 Z Z Z<|Qt [(0,.pointer (some ⟨g,0,none⟩)),(1,.slice ak ks.length ck)] ?_ ⟨Z,Z,tvA⟩
 have hcw:=Chg.refl (S) w
 refine Qe<|Qa<|sm Z Z<|st (Qam Z) Z<|Wn<|tN<|QX Z (Z)<|Qf<|tN<|Qa<|sm Z Z<|sm Z Z<|st (Qc Z) Z<|st (Qk K2 Z) Z<|KL Z Z hB siz3 Z Q0 (fun w1 hB1 hC1=>?_)
 have hD1:=hD.self (D':={ D with used:=0 }) hC1 hB1 rfl;have hK1:=hK.chgS hC1 (fun h0 k hk e=>hKS h0 k hk (by rw [e]; exact h.inS.1));have hcw1:=hcw.next hC1 (fun k hk=>.inl (by rw [hk]; exact h.inS.1));clear hD hK hcw hB;have hD:=hD1;have hK:=hK1;have hcw:=hcw1;have hB:=hB1;clear hD1 hK1 hcw1
 refine st (Qc Z) Z<|st (Qk Qdk Z) Z<|KL Z Z hB siz4 Z Q0 (fun w2 hB2 hC2=>?_)
 have hD2:=hD.self (D':=Ub D ks 0) hC2 (by rw [mid_zero]; exact hB2) (by rw [mid_zero]);have hK2:=hK.chgS hC2 (fun h0 k hk e=>hKS h0 k hk (by rw [e]; exact h.inS.1));have hcw2:=hcw.next hC2 (fun k hk=>.inl (by rw [hk]; exact h.inS.1));clear hD hK hcw hB hB1;have hD:=hD2;have hK:=hK2;have hcw:=hcw2;have hB:=hB2;clear hD2 hK2 hcw2
 refine Wn<|tN<|Qa<|sm Z Z<|sc _ Tryz.func46 Z Qo Z Z<|(Qxj g (Ub D ks 0) S _ ⟨b,rs,hD⟩ (by rw [mid_zero]; exact hok.srt) (by rw [mid_zero]; exact hlen)).mono ?_
 rintro e_ w3 ⟨v,rfl,hL,hO,hb⟩;refine cR ?_;replace hcw:=hcw.then_below hb;replace hK:=hK.bel hb;replace hD:=hD.bel hb;have zz3:=hb.size;clear hb
 have hLn:KA (Ub D ks 0)=KA D:=by rw [mid_zero]; rfl
 rw [hLn,hnl] at hL;clear hLn hO;obtain ⟨a,c,rfl,hc1,hc2⟩:=hL.shape
 refine st (QT Z Z Tryz.underlying109) Z<|sm Z Z<|Wn<|tN<|Qp<|JG (fun nw4_ lw4_ w4=>∃ i:Nat,∃ rsx:List (Key×FRec),nw4_=D.files.length-i∧lw4_=([(0,.pointer (some ⟨g,0,none⟩)),(1,.slice ak ks.length ck),(17,.slice a D.files.length c),(18,.int .i64 D.files.length),(19,.int .i64 i)]:Env)∧(i≤D.files.length)∧(Chg S w w4)∧(DiskIn w4 g b (Ub D ks i) rsx (Ext S w w4))∧(Reads w4 1 (.slice ak ks.length ck) ks.length (ks.map fun k=>.int .i64 k))∧(Row w4 9 1 (.slice a D.files.length c) D.files.length ((KA D).map Qv))∧(Blk w4 g 50 #[.map (some b),.int .i64 D.limit,.int .i64 (Ub D ks i).used,.int .i64 D.refused,.bool false,.int .i64 D.left])) _ ⟨_,⟨0,rs,Z,Z,Nat.zero_le _,hcw,hD.mono Ext.of,hK,hL,hD.blk⟩,⟨Z,Z,Z,Z,Z,tvA⟩⟩ ?_
 clear hcw hK hL;rintro nw4_ lw4_ w4 ⟨i,rsx,rfl,rfl,hi,hcw,hD,hK,hL,hB⟩;have hlt_hB_w4:=hB.lt;have hu:=Quu (ks:=ks) (i:=i) hok;have hzc:=hcw.size
 refine Qa<|st (QJ Z Z) Z<|Wn<|tN<|Qe<|Qx Z (fun h20=>?_) (fun h20=>?_)
 ·replace h20:=Qs h20
  obtain ⟨p,hp⟩:∃ p,D.files[i]?=some p:=⟨_,List.getElem?_eq_getElem Qb⟩
  obtain ⟨hm1,hm2,hm3⟩:=mid_get (ks:=ks) hok.srt hp;obtain ⟨g1,o1,c',hv,hg1⟩:=hL.reads.some_ Qb;injection hv with e1 _ e3;subst e1 e3
  have hux:((KA D).map Qv)[i]?=some (Qv p.1):=by simp [KA,hp]
  obtain ⟨r,hr,hrf⟩:∃ r,mget rsx p.1=some r∧r.f=p.2:=by
   have:=hD.files p.1
   rw [hm1] at this
   cases hr:mget rsx p.1 with
   | none=>rw [hr] at this; cases this
   | some r=>rw [hr] at this; injection this with this; exact ⟨r,rfl,this.symm⟩
  have hv:((mget (rsx.map fun p=>(p.1,p.2.blk)) p.1).map ZP).getD (.pointer none)=.pointer (some ⟨r.blk,0,none⟩):=Xu (o:=some r.blk) (by rw [hr]; rfl)
  obtain ⟨pk,hpk⟩:∃ pk,ks[i]?.getD 0=pk:=⟨_,rfl⟩
  rw [hpk] at hm2 hm3;rw [← hrf] at hm2 hm3
  have hfo:mget D.files p.1=some r.f:=by rw [hrf]; exact Yj hok.srt.nodup (List.mem_of_getElem? hp)
  have hfb:=hbud.pend _ _ hfo;obtain ⟨hln1,hln2,_⟩:=hok.len hfo
  have hKr:0<ks.length→∀ k,(Value.slice ak ks.length ck).ownBlock=some k→¬r.owns k:=fun h0 k hk ho=>by
   rcases hD.inR _ _ k hr ho with e|e
   ·exact hKS h0 k hk e
   ·have:=hKlt h0 k hk; omega
  refine Qf<|tN<|Qe<|Qp<|Qa<|sm Z Z<|st (QA Z Z Tryz.underlying109 siz9 Z Qb) Z<|st (JS Z uz9 Z (by rw [Nat.mul_one]; exact hL.reads.cellAt Qb hux)) Z ?_
  refine sa Z Z<|sa Z Z<|Wn<|tN<|Qa<|sm Z Z<|st (Qc Z) Z<|st (Qk KF Z) Z<|st (Qi Z hB uz48 Z Z) Z<|sm Z Z<|st (v:=.pointer (some ⟨r.blk,0,none⟩)) (hv▸Vy (KZ uz9) Z p.1 Z uz48 (zptr _) hD.map) Z<|sa Z Z<|sa Z Z<|Wn<|tN<|Qe<|Qa<|sm Z Z<|sm Z Z<|st (QT Z Z uz42) Z<|st (QJ Z Z) Z<|Wn<|tN<|Qx Z (fun h33=>?_) (fun h33=>?_)
  ·replace h33:=Qs h33;obtain ⟨gk,ok_,ck',hvk,hgk⟩:=hK.some_ Qb;injection hvk with e1 _ e3;subst e1 e3
   have hkx:ks[i]?=some pk:=by
    rw [← hpk,List.getElem?_eq_getElem Qb]
    rfl
   have hkx2:(ks.map fun k=>Value.int .i64 k)[i]?=some (.int .i64 pk):=by rw [List.getElem?_map,hkx]; rfl
   refine Qw<|sm Z Z<|sm Z Z<|st (QA Z Z uz42 siz3 Z Qb) Z<|st (JS Z uz3 Z (by rw [Nat.mul_one]; exact hK.cellAt Qb hkx2)) Z ?_
   refine sa Z Z<|Wn<|tN<|Qa<|sm Z Z<|sm Z Z<|sm Z Z<|sc _ Tryz.func48 Z Qo Z Z (Q3 (Qkp r.blk r.vl r.vn r.vp r.f _ _ (hD.at_ _ _ hr).blk (hD.at_ _ _ hr).pend hfb.1) fun w5 hb=>?_)
   replace hcw:=hcw.then_below hb;replace hD:=hD.bel hb;replace hK:=hK.bel hb;replace hL:=hL.bel hb;replace hB:=hB.bel hb;have zz5:=hb.size;clear hb
   refine sc _ Tryz.func47 Z Qo Z Z<|(Qfv r (KP r.f _) _ (hD.at_ _ _ hr) hfb.1 Qb (Qcx _ hfb.1)).mono ?_
   rintro e_ w6 ⟨rfl,r',hF',hbl,hff,how,hCr⟩;refine cR ?_;have hB1:=hB.chg hCr (hD.ne hr).1;have hL1:=hL.chg hCr ((hD.at_ _ _ hr).ne_row hL QF QF QF);have hK1:=hK.chgS hCr hKr;have hcw1:=hcw.next hCr (fun k hk=>(hD.inR _ _ k hr hk).imp id (fun e=>e.1));have hzr:=hCr.size;have hCc:=hCr.mono (T:=fun k=>k=g∨r.owns k) (fun k _ hk=>.inr hk);clear hB hL hK hcw hCr;have hB:=hB1;have hL:=hL1;have hK:=hK1;have hcw:=hcw1;clear hB1 hL1 hK1 hcw1;obtain ⟨an,cn,hvn,_⟩:=hF'.now.shape
   have hF6:Blk w6 r.blk 117 #[r'.vl,.slice an r'.f.now.length cn,r'.vp]:=by rw [← hbl,← hvn]; exact hF'.blk
   have hrl:r'.f.now.length≤16777216:=by
    rw [hff];exact Nat.le_trans ((hok.fok _ _ hfo).crash_len _) hln1
   refine Wn<|tN<|V8 12 Qo Qo ?_
   obtain ⟨w7,hw_,hb⟩:=QN w6;rw [← hw_];clear hw_;replace hcw:=hcw.then_below hb;replace hK:=hK.bel hb;replace hL:=hL.bel hb;replace hB:=hB.bel hb;replace hCc:=hCc.bel hb;replace hF6:=hF6.bel hb;replace hF':=hF'.bel hb;have zz7:=hb.size;clear hb
   refine hY (Qd Z) Z<|hY (Qc Z) Z<|hY (Qk K2 Z) Z<|hY (Qi Z hB uz3 Z Z) Z<|hY (Qd Z) Z<|hY (Qc Z) Z<|hY (Qk Zr Z) Z<|hY (Qi Z hF6 uz114 Z Z) Z<|hY (QT Z Z uz114) Z<|hY (Qn Z Z Qb) Z<|hY (Qc Z) Z<|hY (Qk K2 Z) Z<|hN<|KL Z Z hB siz3 Z Q0 (fun w8 hB1 hC1=>?_)
   have hg':¬r'.owns g:=fun e=>(how g e).elim (hD.ne hr).1 (fun e=>by have:=hD.blk.lt; omega)
   have hD':DiskIn w8 g b (Ub D ks (i+1)) (mput rsx p.1 r') (Ext S w w8):=by
    refine (hD.file hr (hCc.next hC1 (fun k hk=>.inl (.inl hk))) (D':=Ub D ks (i+1)) (r':=r') (by rw [Qkf,hm3,← hff]; exact hB1) (by rw [hff]; exact hm2) (hF'.chg hC1 (fun k hk e=>hg' (by rw [← e]; exact hk))) hbl how).mono (fun k hk=>?_)
    rcases hk with hk|hk
    ·rcases hk with hk|hk
     ·exact .inl hk
     ·exact .inr ⟨hk.1,by have:=hC1.size; have:=hCc.size; omega⟩
    ·exact .inr ⟨by have:=hzc; omega,hk.2⟩
   have hL1:=hL.chg hC1 (hL.ne2 hB QF);have hK1:=hK.chgS hC1 (fun h0 k hk e=>hKS h0 k hk (by rw [e]; exact h.inS.1));have hcw1:=hcw.next hC1 (fun k hk=>.inl (by rw [hk]; exact h.inS.1));clear hL hK hcw hB;have hL:=hL1;have hK:=hK1;have hcw:=hcw1;have hB:=hB1
   refine Wn<|bN<|tN<|Qw<|st (Qn Z Z Qb) Z<|sm Z Z<|Wn<|tN ⟨_,_,?_,⟨i+1,mput rsx p.1 r',Z,Z,by omega,hcw,hD',hK,hL,hD'.blk⟩,⟨Z,Z,Z,Z,Z,tvA⟩⟩
   omega
  ·replace h33:=Qs h33
   obtain rfl:pk=0:=by rw [← hpk,List.getElem?_eq_none Qb]; rfl
   refine Qf<|tN<|Qa<|sm Z Z<|sm Z Z<|sm Z Z<|sc _ Tryz.func48 Z Qo Z Z (Q3 (Qkp r.blk r.vl r.vn r.vp r.f _ _ (hD.at_ _ _ hr).blk (hD.at_ _ _ hr).pend hfb.1) fun w9 hb=>?_)
   replace hcw:=hcw.then_below hb;replace hD:=hD.bel hb;replace hK:=hK.bel hb;replace hL:=hL.bel hb;replace hB:=hB.bel hb;have zz9:=hb.size;clear hb
   refine sc _ Tryz.func47 Z Qo Z Z<|(Qfv r (KP r.f _) _ (hD.at_ _ _ hr) hfb.1 Qb (Qcx _ hfb.1)).mono ?_
   rintro e_ w10 ⟨rfl,r',hF',hbl,hff,how,hCr⟩;refine cR ?_;have hB1:=hB.chg hCr (hD.ne hr).1;have hL1:=hL.chg hCr ((hD.at_ _ _ hr).ne_row hL QF QF QF);have hK1:=hK.chgS hCr hKr;have hcw1:=hcw.next hCr (fun k hk=>(hD.inR _ _ k hr hk).imp id (fun e=>e.1));have hzr:=hCr.size;have hCc:=hCr.mono (T:=fun k=>k=g∨r.owns k) (fun k _ hk=>.inr hk);clear hB hL hK hcw hCr;have hB:=hB1;have hL:=hL1;have hK:=hK1;have hcw:=hcw1;clear hB1 hL1 hK1 hcw1;obtain ⟨an,cn,hvn,_⟩:=hF'.now.shape
   have hF6:Blk w10 r.blk 117 #[r'.vl,.slice an r'.f.now.length cn,r'.vp]:=by rw [← hbl,← hvn]; exact hF'.blk
   have hrl:r'.f.now.length≤16777216:=by
    rw [hff];exact Nat.le_trans ((hok.fok _ _ hfo).crash_len _) hln1
   refine Wn<|tN<|V8 12 Qo Qo ?_
   obtain ⟨w11,hw_,hb⟩:=QN w10;rw [← hw_];clear hw_;replace hcw:=hcw.then_below hb;replace hK:=hK.bel hb;replace hL:=hL.bel hb;replace hB:=hB.bel hb;replace hCc:=hCc.bel hb;replace hF6:=hF6.bel hb;replace hF':=hF'.bel hb;have zz11:=hb.size;clear hb
   refine hY (Qd Z) Z<|hY (Qc Z) Z<|hY (Qk K2 Z) Z<|hY (Qi Z hB uz3 Z Z) Z<|hY (Qd Z) Z<|hY (Qc Z) Z<|hY (Qk Zr Z) Z<|hY (Qi Z hF6 uz114 Z Z) Z<|hY (QT Z Z uz114) Z<|hY (Qn Z Z Qb) Z<|hY (Qc Z) Z<|hY (Qk K2 Z) Z<|hN<|KL Z Z hB siz3 Z Q0 (fun w12 hB1 hC1=>?_)
   have hg':¬r'.owns g:=fun e=>(how g e).elim (hD.ne hr).1 (fun e=>by have:=hD.blk.lt; omega)
   have hD':DiskIn w12 g b (Ub D ks (i+1)) (mput rsx p.1 r') (Ext S w w12):=by
    refine (hD.file hr (hCc.next hC1 (fun k hk=>.inl (.inl hk))) (D':=Ub D ks (i+1)) (r':=r') (by rw [Qkf,hm3,← hff]; exact hB1) (by rw [hff]; exact hm2) (hF'.chg hC1 (fun k hk e=>hg' (by rw [← e]; exact hk))) hbl how).mono (fun k hk=>?_)
    rcases hk with hk|hk
    ·rcases hk with hk|hk
     ·exact .inl hk
     ·exact .inr ⟨hk.1,by have:=hC1.size; have:=hCc.size; omega⟩
    ·exact .inr ⟨by have:=hzc; omega,hk.2⟩
   have hL1:=hL.chg hC1 (hL.ne2 hB QF);have hK1:=hK.chgS hC1 (fun h0 k hk e=>hKS h0 k hk (by rw [e]; exact h.inS.1));have hcw1:=hcw.next hC1 (fun k hk=>.inl (by rw [hk]; exact h.inS.1));clear hL hK hcw hB;have hL:=hL1;have hK:=hK1;have hcw:=hcw1;have hB:=hB1
   refine Wn<|bN<|tN<|Qw<|st (Qn Z Z Qb) Z<|sm Z Z<|Wn<|tN ⟨_,_,?_,⟨i+1,mput rsx p.1 r',Z,Z,by omega,hcw,hD',hK,hL,hD'.blk⟩,⟨Z,Z,Z,Z,Z,tvA⟩⟩
   omega
 ·replace h20:=Qs h20
  obtain rfl:i=D.files.length:=by omega
  rw [mid_all] at hD
  refine QQ<|tE<|tE<|bH ?_
  exact (r0 Z ⟨Z,⟨b,_,hD⟩,hcw⟩).2
end
section
open Go.RowKit
structure Own (B:Nat) (w:World) (g:Nat) (D:DiskD) (S:Nat→Prop):Prop where
  at_:DiskAt w g D S
  lo:∀ k,S k→B≤k∧k<w.heap.size
section
variable {B g c:Nat} {w w' w'':World} {D D' E:DiskD} {S T:Nat→Prop}
theorem Own.bel (h:Own B w g D S) (hb:Below w.heap.size w w'):Own B w' g D S:=⟨h.at_.bel hb,fun k hk=>by have:=h.lo k hk; have:=hb.size; omega⟩
theorem Own.step (h:Own B w g D S) (hD:DiskAt w' g D' (Ext S w w')) (hC:Chg S w w') (hB:B≤w.heap.size):Own B w' g D' (Ext S w w') :=
 ⟨hD,fun k hk=>by
  have:=hC.size
  rcases hk with hk|hk
  ·have:=h.lo k hk; omega
  ·omega⟩
theorem Own.other (h:Own B w c E T) (hC:Chg S w w') (hd:∀ k,S k→¬T k):Own B w' c E T:=⟨h.at_.chg hC (fun k hk e=>hd k e hk),fun k hk=>by have:=h.lo k hk; have:=hC.size; omega⟩
theorem bchg {w0:World} (hb:Below w0.heap.size w0 w) (hc:Chg S w w') (hs:∀ k,S k→w0.heap.size≤k):Below w0.heap.size w0 w' :=
 ⟨hc.os.trans hb.os,hc.tape.trans hb.tape,hc.output.trans hb.output,Nat.le_trans hb.size hc.size,fun k hk=>(hc.block k (Nat.lt_of_lt_of_le hk hb.size) (fun e=>by have:=hs k e; omega)).trans (hb.block k hk)⟩
end
end
section
open Go.ChangeShapes Go.WideShapes Go.ChangeAt Go.RowKit
theorem own:ownKnob Tryz.prog.godebug=none:=by kernel_rfl
theorem laidOut:laidOutB Tryz.prog=true:=by kernel_rfl
end
section
open Go.ChangeShapes Go.WideShapes Go.ChangeAt Go.RowKit
section
variable {H:Type} {enc:TypeId×Value→H} {W:World} {base:Nat} {sp:Nat→Bool} {held:Bool}
theorem Qff {α:Type} [Inhabited α] (f:α→List Value) (p:α→Prop) {t e:TypeId} {k fuel:Nat} {cs:List Value} {x:DataW H×List MemPlace} (ht:Tryz.prog.underlying t=some (.slice e)) (hk:Tryz.prog.cellsOf e=k) (hk0:0<k)
  (he:∀ fuel cs x,DataW.trod enc Tryz.prog W base sp held fuel e cs=some x→∃ a,cs=f a∧p a)
  (h:DataW.trod enc Tryz.prog W base sp held fuel t cs=some x) :
  ∃ (v:Value) (l:List α),cs=[v]∧Reads W k v l.length (l.flatMap f)∧∀ a∈l,p a∧(f a).length=k:=by
 rcases Go.Deep.open_slice ht h with ⟨rfl,_⟩|⟨a,len,cap,m,n,D,Pl,rfl,hb,hl,hm,hmm,rfl,hx⟩
 ·exact ⟨_,[],Z,⟨by simp,none,0,Z,Nat.le_refl _,by simp [maxLen],fun h=>absurd h Q0⟩,by simp⟩
 ·rw [hk] at hx
  have hlm:len≤m:=by rw [hmm]; split <;> omega
  obtain ⟨V,hV⟩:=Go.Deep.choose_lt (α:=α) (p:=fun i v=>W.cells? base (a.add (i*k)) k=some (f v)∧p v) (n:=m) (fun i hi=>by
   obtain ⟨cs',h1,h2⟩:=hx i hi;obtain ⟨v,rfl,hp⟩:=he _ _ _ h2
   exact ⟨v,h1,hp⟩)
  have hfl:∀ i,i<m→(f (V i)).length=k:=fun i hi=>(World.cells?_some (hV i hi).1).2.1
  have hall:∀ b∈(List.range len).map V,p b∧(f b).length=k:=by
   intro b hb;obtain ⟨i,hi,rfl⟩:=List.mem_map.1 hb
   have:i<m:=by have:=List.mem_range.1 hi; omega
   exact ⟨(hV i this).2,hfl i this⟩
  have hlen:(((List.range len).map V).flatMap f).length=len*k:=by
   rw [ZZ f k _ (fun b hb=>(hall b hb).2)]; simp
  refine ⟨_,(List.range len).map V,Z,⟨by simpa using hlen,some a,cap,by simp,by simpa using hl,hm,fun hn=>?_⟩,hall⟩
  have hn':0<len:=by simpa using hn
  obtain ⟨_,hl0,hc0⟩:=World.cells?_some (hV 0 Qb).1;have h0:=hc0 0 Qb;rw [List.getElem?_eq_getElem Qb] at h0;obtain ⟨b,off,spot⟩:=a
  have hspot:spot=none:=by simpa [Addr.add] using World.cell?_spot h0
  subst hspot;refine ⟨b,off,Z,by simpa [Addr.add] using World.block_lt_of_cell? W _ h0,fun j u hu=>?_⟩;have hj:=(List.getElem?_eq_some_iff.1 hu).1;rw [hlen] at hj;have hi:j / k<len:=(Nat.div_lt_iff_lt_mul hk0).2 hj;have hr:j%k<k:=Nat.mod_lt _ hk0
  have hjk:j=j / k*k+j%k:=by rw [Nat.mul_comm]; exact (Nat.div_add_mod j k).symm
  have hat:((List.range len).map V)[j / k]?=some (V (j / k)):=by
   rw [List.getElem?_map,List.getElem?_range hi]; rfl
  have hfa:=VT f k _ (j / k) _ (fun b hb=>(hall b hb).2) hat
  have hu':(f (V (j / k)))[j%k]?=some u:=by
   rw [← hfa,List.getElem?_take_of_lt hr,List.getElem?_drop,← hjk];exact hu
  have hcell:=(World.cells?_some (hV (j / k) Qb).1).2.2 (j%k) hr;rw [hu'] at hcell;rw [← hcell];rw [Addr.add_lit,Addr.add_lit,Nat.add_assoc,← hjk]
end
end
section
open Go.ChangeShapes Go.WideShapes Go.ChangeAt Go.RowKit
theorem flat_int1:∀ l:List Int,l.flatMap (fun q=>[Value.int .i64 q])=l.map fun k=>.int .i64 k
 | []=>rfl
 | a::l=>by rw [List.flatMap_cons,flat_int1 l]; rfl
section
variable {H:Type} {enc:TypeId×Value→H} {W:World} {base:Nat} {sp:Nat→Bool} {held:Bool}
theorem cInt:Tryz.prog.cellsOf 3=1:=by kernel_rfl
theorem cStr:Tryz.prog.cellsOf 9=1:=by kernel_rfl
theorem cInts:Tryz.prog.cellsOf 42=1:=by kernel_rfl
theorem Qtm {n:Int} (h:(Lit.int .i64 n).wf=true):-9223372036854775808≤n∧n≤9223372036854775807:=by
 simp only [Lit.wf,Bool.and_eq_true,decide_eq_true_eq] at h;exact h
theorem Qrr (fuel:Nat) (cs:List Value) (x:DataW H×List MemPlace) (h:DataW.trod enc Tryz.prog W base sp held fuel 3 cs=some x):∃ n:Int,cs=[.int .i64 n]∧True:=by
 obtain ⟨n,e,_,_⟩:=DataW.trod_int uz3 h;exact ⟨n,e,tvA⟩
theorem Qna (fuel:Nat) (cs:List Value) (x:DataW H×List MemPlace) (h:DataW.trod enc Tryz.prog W base sp held fuel 42 cs=some x):∃ (v:Value) (l:List Int),cs=[v]∧Reads W 1 v l.length (l.map fun k=>.int .i64 k):=by
 obtain ⟨v,l,hv,hR,_⟩:=Qff (fun n:Int=>[Value.int .i64 n]) (fun _=>True) uz42 cInt QF Qrr h;rw [flat_int1] at hR;exact ⟨v,l,hv,hR⟩
end
def Vp (cs:Array Value):Obj→Obj
  | .cells _ t frozen=>.cells cs t frozen
  | o=>o
end
section
open Go.RowKit
section
variable {P:Program} {fn:Func} {R:Ending→World→Prop} {l:Env} {w:World}
theorem r3 {x y z:ResultVar} {v u s:Value} (hf:fn.results=#[x,y,z]) (hx:Yu P l w x v) (hy:Yu P l w y u) (hz:Yu P l w z s) (hR:R (.returned (.tuple #[v,u,s])) w):JI P fn R .ret l w∧JI P fn R .normal l w:=by
 have h:∃ v,(∀ a:Array Value,(∀ t v,lk l t=some v→a.getD t undef=v)→(results fn a).run P w=.ok v w)∧R (.returned v) w:=⟨.tuple #[v,u,s],fun a ha=>by
  have h1:=Zi hx a ha;have h2:=Zi hy a ha;have h3:=Zi hz a ha;rw [UQ,hf];simp only [List.mapM_toArray,List.mapM_cons,List.mapM_nil,Sem.run_bind,Sem.run_pure,map_eq_pure_bind];simp only [h1,h2,h3,Result.andThen_ok]
  rfl,hR⟩
 exact ⟨h,h⟩
theorem rTTT {t t2 t3:Nat} {v v2 v3:Value} (hf:fn.results=#[.tmp t,.tmp t2,.tmp t3]) (hx:lk l t=some v) (hy:lk l t2=some v2) (hz:lk l t3=some v3) (hR:R (.returned (.tuple #[v,v2,v3])) w):JI P fn R .ret l w∧JI P fn R .normal l w:=r3 hf hx hy hz hR
end
end
end Go.Proofs.YtgiccohjijhfkaaGreatDoor
