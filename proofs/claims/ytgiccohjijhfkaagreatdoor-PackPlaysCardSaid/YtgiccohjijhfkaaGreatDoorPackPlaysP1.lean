/- Part 1. -/
import Derived.Below
import Derived.Laws.OwnMore
import Derived.Deep.Draws
import Derived.Deep.OwnRows
import Derived.Laws.Rows
import Derived.Deep.AppendSrc
import Derived.WalkKit
import Derived.Lib.Hide
import Derived.OrdersHeld
import Derived.Deep.QuietTactic
import Derived.BigQuiet
import Derived.Deep.MidRow
import Derived.IntWalk
set_option maxRecDepth 100000
set_option maxHeartbeats 4000000
namespace Go.Proofs.YtgiccohjijhfkaaGreatDoor
section
open Go.RowKit
theorem Z {α:Sort _} {a:α}:a=a:=rfl
abbrev Y:=true
structure Chg (S:Nat→Prop) (w w':World):Prop where
  os:w'.os=w.os
  tape:w'.tape=w.tape
  output:w'.output=w.output
  size:w.heap.size≤w'.heap.size
  block:∀ k,k<w.heap.size→¬S k→w'.heap[k]?=w.heap[k]?
def More (S:Nat→Prop) (w:World):Nat→Prop:=fun k=>S k∨w.heap.size≤k
section
variable {S T:Nat→Prop} {w w' w'':World}
theorem Chg.refl (S:Nat→Prop) (w:World):Chg S w w:=⟨rfl,rfl,rfl,Nat.le_refl _,fun _ _ _=>rfl⟩
theorem Chg.mono (h:Chg S w w') (hs:∀ k,k<w.heap.size→S k→T k):Chg T w w' :=
 ⟨h.os,h.tape,h.output,h.size,fun k hk hn=>h.block k hk (fun s=>hn (hs k hk s))⟩
theorem Chg.trans (h:Chg S w w') (k:Chg T w' w'') (hs:∀ i,i<w.heap.size→T i→S i):Chg S w w'' :=
  ⟨k.os.trans h.os,k.tape.trans h.tape,k.output.trans h.output,Nat.le_trans h.size k.size,
   fun i hi hn=>(k.block i (Nat.lt_of_lt_of_le hi h.size) (fun t=>hn (hs i hi t))).trans (h.block i hi hn)⟩
theorem Chg.next (h:Chg S w w') (k:Chg T w' w'') (hs:∀ i,T i→S i∨w.heap.size≤i):Chg S w w'' :=
 h.trans k (fun i hi t=>(hs i t).elim id (fun t=>absurd t (by omega)))
theorem Chg.belowAll (h:Chg (fun _=>False) w w'):Below w.heap.size w w':=⟨h.os,h.tape,h.output,h.size,fun k hk=>h.block k hk (fun f=>f)⟩
theorem Chg.of_below (h:Below w.heap.size w w') (S:Nat→Prop):Chg S w w':=⟨h.os,h.tape,h.output,h.size,fun i hi _=>h.block i hi⟩
theorem Chg.below (h:Chg S w w') {B:Nat} (hB:B≤w.heap.size) (hs:∀ k,S k→B≤k):Below B w w' :=
 ⟨h.os,h.tape,h.output,h.size,fun k hk=>h.block k (by omega) (fun s=>by have:=hs k s; omega)⟩
theorem Chg.drew (h:Chg S w w'):Chg S w w'.drew:=⟨h.os,h.tape,h.output,h.size,h.block⟩
theorem Chg.drewN (h:Chg S w w') (n:Nat):Chg S w (w'.drewN n):=⟨h.os,h.tape,h.output,h.size,h.block⟩
theorem Chg.alloc (h:Chg S w w') (o:Obj):Chg S w (w'.alloc o) :=
 ⟨h.os,h.tape,h.output,Nat.le_trans h.size (by simp),fun i hi hn=>(Below.heap_alloc w' o i (Nat.lt_of_lt_of_le hi h.size)).trans (h.block i hi hn)⟩
theorem Chg.setCell (h:Chg S w w') {p:Addr} (hp:S p.block∨w.heap.size≤p.block) (u:Value):Chg S w (w'.setCell p u) :=
 ⟨h.os,h.tape,h.output,by simpa [World.setCell] using h.size,fun i hi hn=>(Below.heap_setCell w' p u i (by
  rintro rfl
  rcases hp with hp|hp
  ·exact hn hp
  ·omega)).trans (h.block i hi hn)⟩
theorem Chg.setRow (h:Chg S w w') {g:Nat} (hp:S g∨w.heap.size≤g) (cs:Array Value):Chg S w (w'.setRow g cs) :=
 ⟨h.os,h.tape,h.output,by simpa [World.setRow] using h.size,fun i hi hn=>(setRow_other w' g i cs (by
  rintro rfl
  rcases hp with hp|hp
  ·exact hn hp
  ·omega)).trans (h.block i hi hn)⟩
theorem Chg.cell (h:Chg S w w') {p:Addr} (hb:p.block<w.heap.size) (hn:¬S p.block):w'.cell? p=w.cell? p:=World.cell?_of_block (h.block _ hb hn)
theorem Uk {B:Nat} {a w:World} (h:Below B a w) (n:Nat):Below B a (w.drewN n):=⟨h.os,h.tape,h.output,h.size,h.block⟩
theorem Chg.then_below (h:Chg S w w') (k:Below w'.heap.size w' w''):Chg S w w'' :=
 h.trans (Chg.of_below k (fun _=>False)) (fun _ _ f=>f.elim)
theorem Zm {B:Nat} (h:Below B w w') (k:Below w'.heap.size w' w'') (hB:B≤w.heap.size):Below B w w'' :=
 h.trans (k.mono (Nat.le_trans hB h.size))
end
def Blk (w:World) (g:Nat) (t:TypeId) (cs:Array Value):Prop:=w.heap[g]?=some (.cells cs t (0,0))
section
variable {w w':World} {g:Nat} {t:TypeId} {cs:Array Value}
theorem Blk.lt (h:Blk w g t cs):g<w.heap.size:=by
 rcases Nat.lt_or_ge g w.heap.size with hlt|hge
 ·exact hlt
 ·unfold Blk at h; rw [Array.getElem?_eq_none hge] at h; cases h
theorem Blk.cell (h:Blk w g t cs) (i:Nat):w.cell? ⟨g,i,none⟩=cs[i]?:=cell_of_row w g i cs t (0,0) h
theorem Blk.frozen (h:Blk w g t cs) (i:Nat):w.frozen? ⟨g,i,none⟩=false:=by
 unfold Blk at h;simp [World.frozen?,h]
theorem Blk.new (w:World) (t:TypeId) (cs:Array Value):Blk (w.alloc (.cells cs t)) w.heap.size t cs:=heap_alloc_new w _
theorem Blk.drew (h:Blk w g t cs):Blk w.drew g t cs:=h
theorem Blk.drewN (h:Blk w g t cs) (n:Nat):Blk (w.drewN n) g t cs:=h
theorem Blk.alloc (h:Blk w g t cs) (o:Obj):Blk (w.alloc o) g t cs:=(Below.heap_alloc w o g h.lt).trans h
theorem Blk.set_ (h:Blk w g t cs) (i:Nat) (u:Value):Blk (w.setCell ⟨g,i,none⟩ u) g t (cs.setIfInBounds i u):=by
 unfold Blk at h ⊢;simp [World.setCell,Array.getElem?_modify,h]
theorem Blk.below {B:Nat} (h:Blk w g t cs) (hb:Below B w w') (hg:g<B):Blk w' g t cs:=(hb.block g hg).trans h
theorem Blk.belowAll (h:Blk w g t cs) (hb:Below w.heap.size w w'):Blk w' g t cs:=h.below hb h.lt
theorem Blk.chg {S:Nat→Prop} (h:Blk w g t cs) (hb:Chg S w w') (hg:¬S g):Blk w' g t cs:=(hb.block g h.lt hg).trans h
end
def Row (w:World) (e:TypeId) (size:Nat) (v:Value) (n:Nat) (xs:List Value):Prop :=
  xs.length=n*size ∧
  ((v=.slice none 0 0∧n=0) ∨
   ∃ g off cap cur fz,v=.slice (some ⟨g,off,none⟩) n cap∧w.heap[g]?=some (.cells cur e fz)∧n≤cap∧cap≤maxLen∧off+cap*size≤cur.size∧(cur.toList.drop off).take (n*size)=xs ∧
     ∀ j,j<cur.size→¬(fz.1≤j∧j<fz.2))
section
variable {w w':World} {e:TypeId} {size:Nat} {v:Value} {n:Nat} {xs:List Value}
theorem Row.nil (w:World) (e:TypeId) (size:Nat):Row w e size (.slice none 0 0) 0 []:=⟨by simp,.inl ⟨rfl,rfl⟩⟩
theorem Row.lt (h:Row w e size v n xs):∀ k,v.ownBlock=some k→k<w.heap.size:=by
 intro k hk
 rcases h.2 with ⟨rfl,_⟩|⟨g,off,cap,cur,fz,rfl,hg,_⟩
 ·simp [Value.ownBlock] at hk
 ·simp [Value.ownBlock] at hk;subst hk;exact (Array.getElem?_eq_some_iff.1 hg).1
theorem Row.keep (h:Row w e size v n xs) (hk:∀ k,v.ownBlock=some k→w'.heap[k]?=w.heap[k]?):Row w' e size v n xs:=by
 refine ⟨h.1,?_⟩
 rcases h.2 with hn|⟨g,off,cap,cur,fz,rfl,hg,r⟩
 ·exact .inl hn
 ·exact .inr ⟨g,off,cap,cur,fz,Z,(hk g (by simp [Value.ownBlock])).trans hg,r⟩
theorem Row.chg {S:Nat→Prop} (h:Row w e size v n xs) (hc:Chg S w w') (hn:∀ k,v.ownBlock=some k→¬S k):Row w' e size v n xs :=
 h.keep fun k hk=>hc.block k (h.lt k hk) (hn k hk)
theorem Row.belowAll (h:Row w e size v n xs) (hb:Below w.heap.size w w'):Row w' e size v n xs:=h.keep fun k hk=>hb.block k (h.lt k hk)
theorem Row.drew (h:Row w e size v n xs):Row w.drew e size v n xs:=h
theorem Row.alloc (h:Row w e size v n xs) (o:Obj):Row (w.alloc o) e size v n xs:=h.keep fun k hk=>Below.heap_alloc w o k (h.lt k hk)
theorem Row.far (h:Row w e size v n xs) {p:Addr} (hp:v.ownBlock≠some p.block) (u:Value):Row (w.setCell p u) e size v n xs :=
 h.keep fun k hk=>Below.heap_setCell w p u k (by rintro rfl; exact hp hk)
theorem Row.ne_ {g:Nat} {t:TypeId} {cs:Array Value} (h:Row w e size v n xs) (hb:Blk w g t cs) (hne:e≠t):v.ownBlock≠some g:=by
 intro hk
 rcases h.2 with ⟨rfl,_⟩|⟨g',off,cap,cur,fz,rfl,hg,_⟩
 ·simp [Value.ownBlock] at hk
 ·simp [Value.ownBlock] at hk;subst hk;unfold Blk at hb;rw [hb] at hg;injection hg with hg;injection hg with _ ht;exact hne ht.symm
theorem Row.of_own {base:Nat} (h:w.ownsRow base e size v n xs):Row w e size v n xs:=by
 refine ⟨h.1,?_⟩
 rcases h.2 with hn|⟨g,cap,cur,hv,_,hg,h1,h2,h3,h4⟩
 ·exact .inl hn
 ·exact .inr ⟨g,0,cap,cur,(0,0),hv,hg,h1,h2,by omega,by simpa using h4,fun j _=>by simp⟩
theorem Row.new (w:World) (e:TypeId) (size n:Nat) (cur:Array Value) (hn:n≤maxLen) (hc:cur.size=n*size) :
  Row (w.alloc (.cells cur e)) e size (.slice (some ⟨w.heap.size,0,none⟩) n n) n cur.toList :=
 ⟨by simpa using hc,.inr ⟨w.heap.size,0,n,cur,(0,0),rfl,heap_alloc_new w _,Nat.le_refl _,hn,by omega,by simp [List.take_of_length_le,hc],fun j _=>by simp⟩⟩
theorem Row.form (h:Row w e size v n xs) (hn:0<n):∃ g off cap,v=.slice (some ⟨g,off,none⟩) n cap∧v.ownBlock=some g∧n≤cap∧cap≤maxLen ∧
  (∀ j u,xs[j]?=some u→w.cell? ⟨g,off+j,none⟩=some u)∧(∀ j,j<cap*size→w.frozen? ⟨g,off+j,none⟩=false):=by
 rcases h.2 with ⟨_,h0⟩|⟨g,off,cap,cur,fz,rfl,hg,h1,h2,h3,h4,h5⟩
 ·omega
 ·refine ⟨g,off,cap,Z,by simp [Value.ownBlock],h1,h2,fun j u hu=>?_,fun j hj=>by
   have:=h5 (off+j) (by omega)
   simp only [World.frozen?,hg];simp only [Bool.and_eq_false_iff,decide_eq_false_iff_not]
   omega⟩
  rw [cell_of_row w g (off+j) cur e fz hg];rw [← h4,List.getElem?_take] at hu
  split at hu
  ·rw [List.getElem?_drop] at hu; simpa using hu
  ·cases hu
theorem Row.shape (h:Row w e size v n xs):∃ a cap,v=.slice a n cap∧n≤cap∧cap≤maxLen:=by
 rcases h.2 with ⟨rfl,rfl⟩|⟨g,off,cap,cur,fz,rfl,_,h1,h2,_⟩
 ·exact ⟨none,0,Z,Nat.le_refl _,by simp [maxLen]⟩
 ·exact ⟨_,cap,Z,h1,h2⟩
theorem Row.nle (h:Row w e size v n xs):n≤9223372036854775807:=by
 obtain ⟨a,cap,_,h1,h2⟩:=h.shape;unfold maxLen at h2
 omega
theorem Row.cut (h:Row w e size v n xs) {a:Option Addr} {cap:Nat} (hv:v=.slice a n cap) (lo hi:Nat) (hlo:lo≤hi) (hhi:hi≤n) :
  Row w e size (sliced a lo hi cap size) (hi-lo) ((xs.take (hi*size)).drop (lo*size)):=by
 have hl:=h.1;refine ⟨by rw [List.length_drop,List.length_take,hl,Nat.min_eq_left (Nat.mul_le_mul_right _ hhi),Nat.sub_mul],?_⟩
 rcases h.2 with ⟨rfl,rfl⟩|⟨g,off,cap',cur,fz,rfl,hg,h1,h2,h3,h4,h5⟩
 ·left
  injection hv with h1 h2 h3;subst h1; subst h3
  obtain rfl:hi=0:=by omega
  obtain rfl:lo=0:=by omega
  simp [sliced]
 ·right
  injection hv with e1 e2 e3;subst e1; subst e3;unfold sliced
  by_cases hc:cap'=lo
  ·subst hc;refine ⟨g,off,0,cur,fz,by simp,hg,by omega,by simp [maxLen],by omega,?_,h5⟩
   obtain rfl:hi=cap':=by omega
   simp only [Nat.sub_self,Nat.zero_mul,List.take_zero]
   symm
   apply List.drop_eq_nil_of_le
   rw [List.length_take];exact Nat.min_le_left _ _
  ·refine ⟨g,off+lo*size,cap' - lo,cur,fz,?_,hg,by omega,by unfold maxLen at *; omega,?_,?_,h5⟩
   ·rw [if_neg hc];simp only [Option.map_some,Addr.add]
    by_cases h0:lo*size=0 <;> simp [h0]
   ·have:lo*size+(cap' - lo)*size=cap' * size:=by rw [← Nat.add_mul]; congr 1; omega
    omega
   ·rw [← h4,List.take_take,Nat.min_eq_left (Nat.mul_le_mul_right _ hhi),List.drop_take,List.drop_drop,← Nat.sub_mul]
theorem Qaz {a:Option Addr} {n c lo hi m s k:Nat} (h:(sliced a lo hi m s).ownBlock=some k):(Value.slice a n c).ownBlock=some k:=by
 unfold sliced at h
 cases a with
 | none=>simp [Value.ownBlock] at h
 | some a =>
  by_cases hc:m=lo
  ·simp only [if_pos hc,Value.ownBlock] at h ⊢; exact h
  ·simp only [if_neg hc,Option.map_some,Value.ownBlock] at h ⊢;rw [← h]; unfold Addr.add; split <;> rfl
end
theorem Row.src {P:Program} {w:World} {e e' tx:TypeId} {size:Nat} {v:Value} {n:Nat} {xs:List Value} (h:Row w e size v n xs) (hk:P.underlying tx=some (.slice e'))
  (h1:∀ u∈xs,u.oneCell'=true):Src P size tx v n xs w:=by
 rcases h.2 with ⟨rfl,rfl⟩|⟨g,off,cap,cur,fz,rfl,hg,hc1,hc2,hc3,hc4,hc5⟩
 ·obtain rfl:xs=[]:=List.eq_nil_of_length_eq_zero (by simpa using h.1);exact Src.ofNil w hk 0
 ·refine Src.ofSlice w hk ⟨g,off,none⟩ n cap xs h.1 (fun j u hu=>?_) h1;rw [Addr.add_lit,cell_of_row w g (off+j) cur e fz hg];rw [← hc4,List.getElem?_take] at hu
  split at hu
  ·rw [List.getElem?_drop] at hu; simpa using hu
  ·cases hu
theorem UN (b:Nat):∀ (vs:List Value) (o:Nat) (w:World) (cur:Array Value) (t:TypeId) (fz:Nat×Nat),w.heap[b]?=some (.cells cur t fz) →
  ∃ cur',(w.setCells b o vs).heap[b]?=some (.cells cur' t fz)∧cur'.size=cur.size∧(∀ j,(j<o∨o+vs.length≤j)→cur'[j]?=cur[j]?)∧(∀ j,j<vs.length→o+j<cur.size→cur'[o+j]?=vs[j]?)
 | [],o,w,cur,t,fz,h=>⟨cur,h,rfl,fun _ _=>rfl,fun j hj=>by simp at hj⟩
 | v::r,o,w,cur,t,fz,h=>by
  have h1:(w.setCell ⟨b,o,none⟩ v).heap[b]?=some (.cells (cur.setIfInBounds o v) t fz):=by simp [World.setCell,Array.getElem?_modify,h]
  obtain ⟨cur',e1,e2,e3,e4⟩:=UN b r (o+1) (w.setCell ⟨b,o,none⟩ v) _ t fz h1;refine ⟨cur',e1,by simpa using e2,fun j hj=>?_,fun j hj hs=>?_⟩
  ·simp only [List.length_cons] at hj;rw [e3 j (by omega),Array.getElem?_setIfInBounds,if_neg (by omega)]
  ·cases j with
   | zero =>
    rw [Nat.add_zero,e3 o (by omega),Array.getElem?_setIfInBounds,if_pos rfl,if_pos (by omega)]
    rfl
   | succ j =>
    have:=e4 j (by simpa using hj) (by simp; omega)
    rw [show o+(j+1)=o+1+j from by omega,this]
    rfl
theorem K6 (b:Nat):∀ (vs:List Value) (o:Nat) (w:World),(w.setCells b o vs).os=w.os∧(w.setCells b o vs).tape=w.tape∧(w.setCells b o vs).output=w.output∧(w.setCells b o vs).heap.size=w.heap.size∧∀ k,k≠b→(w.setCells b o vs).heap[k]?=w.heap[k]?
 | [],_,_=>⟨rfl,rfl,rfl,rfl,fun _ _=>rfl⟩
 | v::r,o,w=>by
  obtain ⟨a,b1,c,d,e⟩:=K6 b r (o+1) (w.setCell ⟨b,o,none⟩ v);refine ⟨a,b1,c,by rw [World.setCells,d]; simp [World.setCell],fun k hk=>?_⟩;rw [World.setCells,e k hk,Below.heap_setCell _ _ _ _ hk]
theorem Xn {P:Program} (w:World) (t tx ty e:TypeId) (i:TypeInfo) (z:Value) (size bytes:Nat) (ht:P.underlying t=some (.slice e)) (hi:P.info? e=some i) (hz:i.zero=some z)
  (hsize:i.size=size) (hby:i.bytes=bytes) (hzs:z.cells.size=size) (_hsz:0<size)
  (v:Value) (n:Nat) (xs:List Value) (hown:Row w e size v n xs) (x:Value) (m:Nat) (news:List Value) (hs:Src P size tx x m news w)
  (h63:n+m≤maxLen) (hbytes:(n+m)*bytes≤140737488355328) :
  ∃ v' w',(Builtin.append_ #[t,tx] ty #[v,x]).run P w=.ok v' w'∧Row w' e size v' (n+m) (xs++news)∧Chg (fun k=>v.ownBlock=some k) w w' ∧
   (v'.ownBlock=v.ownBlock∨v'.ownBlock=some w.heap.size):=by
 subst hsize
 subst hby
 have hsmall:n+m≤9223372036854775807:=by simp only [maxLen] at h63; omega
 have hlen:(xs++news).length=(n+m)*i.size:=by rw [List.length_append,hown.1,hs.newsLen,Nat.add_mul]
 have grown:∀ (old:Nat),old<n+m →
   Row (w.drew.alloc (.cells ((xs++news).toArray++Builtin.zeroCells z.cells (grownCap w (n+m) old e-(n+m))) e)) e i.size
    (.slice (some ⟨w.heap.size,0,none⟩) (n+m) (grownCap w (n+m) old e)) (n+m) (xs++news):=by
  intro old ho;have hge:=grownCap_ge w (n+m) old e;have hcm:grownCap w (n+m) old e≤maxLen:=grownCap_le_maxLen w (n+m) old e h63;refine ⟨hlen,.inr ⟨w.heap.size,0,_,_,(0,0),Z,heap_alloc_new w.drew _,hge,hcm,?_,?_,fun j _=>by simp⟩⟩
  ·simp only [Array.size_append,List.size_toArray,size_zeroCells,hzs,hlen,← Nat.add_mul];rw [show n+m+(grownCap w (n+m) old e-(n+m))=grownCap w (n+m) old e from by omega]
   omega
  ·simp only [Array.toList_append,List.drop_zero];rw [← hlen];exact List.take_left
 have hgc:∀ o:Obj,Chg (fun k=>v.ownBlock=some k) w (w.drew.alloc o):=fun o=>((Chg.refl _ w).drew).alloc o
 rcases hown.2 with ⟨rfl,rfl⟩|⟨g,off,cap,cur,fz,rfl,hg,hnc,hcm,hcs,htake,hfz⟩
 ·have hx:xs=[]:=List.eq_nil_of_length_eq_zero (by simpa using hown.1);subst hx
  by_cases hm:m=0
  ·subst hm;have hn:news=[]:=List.eq_nil_of_length_eq_zero (by simpa using hs.newsLen);subst hn;refine ⟨.slice none 0 0,w,?_,Row.nil w e i.size,Chg.refl _ w,.inl Z⟩
   rcases hs.kind with ⟨e',hk⟩|hk <;> simp [Builtin.append_,run_underlying ht,run_underlying hk,sizeOf,typeInfo,hi,hs.len,hs.cells]
  ·have hr:=run_append_grow_src (P:=P) w t tx ty e i z ht hi hz none 0 0 [] (by simp [Builtin.firstCells]) x m news hs (by omega) (by simp only [Nat.zero_add] at *; omega) (growslice_fits (by omega) hbytes);exact ⟨_,_,hr,grown 0 (by omega),hgc _,.inr Z⟩
 ·by_cases hroom:n+m≤cap
  ·have hin:off+n*i.size+news.length≤cur.size:=by
    rw [hs.newsLen]
    have:n*i.size+m*i.size≤cap*i.size:=by rw [← Nat.add_mul]; exact Nat.mul_le_mul_right _ hroom
    omega
   have hr:=run_append_room_src (P:=P) w t tx ty e i ht hi g off n cap x m news hs hroom
    (fun j hj=>by rw [cell_of_row w g _ cur e fz hg,Array.getElem?_eq_getElem (by omega)]; rfl) (fun j hj=>by
     have:=hfz (off+n*i.size+j) (by omega)
     simp only [World.frozen?,hg];simp only [Bool.and_eq_false_iff,decide_eq_false_iff_not]
     omega)
   obtain ⟨cur',e1,e2,e3,e4⟩:=UN g news (off+n*i.size) w cur e fz hg;obtain ⟨k1,k2,k3,k4,k5⟩:=K6 g news (off+n*i.size) w;refine ⟨_,_,hr,⟨hlen,.inr ⟨g,off,cap,cur',fz,rfl,e1,hroom,hcm,by omega,?_,fun j hj=>hfz j (by omega)⟩⟩,⟨k1,k2,k3,by omega,fun k _ hk=>k5 k (by rintro rfl; exact hk (by simp [Value.ownBlock]))⟩,.inl (by simp [Value.ownBlock])⟩;have hxl:=hown.1;have hnl:=hs.newsLen;have hsum:(n+m)*i.size=n*i.size+m*i.size:=Nat.add_mul _ _ _
   apply List.ext_getElem?
   intro j;rw [List.getElem?_take]
   by_cases hj:j<(n+m)*i.size
   ·rw [if_pos hj,List.getElem?_drop,Array.getElem?_toList]
    by_cases hjn:j<n*i.size
    ·rw [e3 (off+j) (by omega),List.getElem?_append_left (by omega),← htake,List.getElem?_take,if_pos hjn,List.getElem?_drop,Array.getElem?_toList]
    ·rw [List.getElem?_append_right (by omega)]
     have:=e4 (j-n*i.size) (by omega) (by omega)
     rw [show off+n*i.size+(j-n*i.size)=off+j from by omega] at this;rw [this,hxl]
   ·rw [if_neg hj]
    symm
    rw [List.getElem?_eq_none]
    omega
  ·have hold:(Builtin.firstCells i.size n (.slice (some ⟨g,off,none⟩) n cap)).run P w.drew=.ok xs.toArray w.drew :=
    run_firstCells_some w.drew i.size n _ n cap xs hown.1 (fun j u hu=>by
     rw [Addr.add_lit]
     show w.cell? _=_
     rw [cell_of_row w g (off+j) cur e fz hg];rw [← htake,List.getElem?_take] at hu
     split at hu
     ·rw [List.getElem?_drop] at hu; simpa using hu
     ·cases hu)
   have hr:=run_append_grow_src (P:=P) w t tx ty e i z ht hi hz (some ⟨g,off,none⟩) n cap xs hold x m news hs (by omega) (by omega) (growslice_fits (by omega) hbytes);exact ⟨_,_,hr,grown cap (by omega),hgc _,.inr Z⟩
theorem Uo {P:Program} (w:World) {o:Oper} {a:Act} {K:Act→World→Prop} {Q:Exit→Act→World→Prop} (s x:Operand) (t tx:TypeId)
  (ho:o.op=.call { callee:=.builtin .append,args:=#[s,x],argTypes:=#[t,tx] })
  (e:TypeId) (i:TypeInfo) (z:Value) (size bytes:Nat) (ht:P.underlying t=some (.slice e)) (hi:P.info? e=some i) (hz:i.zero=some z)
  (hsize:i.size=size) (hby:i.bytes=bytes) (hzs:z.cells.size=size) (hsz:0<size)
  (v:Value) (n:Nat) (xs:List Value) (hs:a.eval s=v) (hown:Row w e size v n xs)
  (xv:Value) (m:Nat) (news:List Value) (hx:a.eval x=xv) (hsrc:Src P size tx xv m news w)
  (h63:n+m≤maxLen) (hbytes:(n+m)*bytes≤140737488355328)
  (h:∀ v' w',Row w' e size v' (n+m) (xs++news)→Chg (fun k=>v.ownBlock=some k) w w'→(v'.ownBlock=v.ownBlock∨v'.ownBlock=some w.heap.size)→K (a.put o.dst v') w'):o.wp P a w K Q:=by
 obtain ⟨v',w',hr,h2,h3,h4⟩:=Xn (P:=P) w t tx o.type e i z size bytes ht hi hz hsize hby hzs hsz v n xs hown xv m news hsrc h63 hbytes;unfold Oper.wp execOp;simp only [ho,resolve,invoke,builtin,Sem.run_bind,Sem.run_pure,Result.andThen_ok,List.map_toArray,List.map_cons,List.map_nil,hs,hx,hr];exact h v' w' h2 h3 h4
theorem Jv {P:Program} (w:World) {ops:Array Oper} {rest:List Oper} {o:Oper} {a:Act} {Q:Exit→Act→World→Prop} (hgd:o.guard=none) (s x:Operand) (t tx:TypeId)
  (ho:o.op=.call { callee:=.builtin .append,args:=#[s,x],argTypes:=#[t,tx] })
  (e:TypeId) (i:TypeInfo) (z:Value) (size bytes:Nat) (ht:P.underlying t=some (.slice e)) (hi:P.info? e=some i) (hz:i.zero=some z)
  (hsize:i.size=size) (hby:i.bytes=bytes) (hzs:z.cells.size=size) (hsz:0<size)
  (v:Value) (n:Nat) (xs:List Value) (hs:a.eval s=v) (hown:Row w e size v n xs)
  (xv:Value) (m:Nat) (news:List Value) (hx:a.eval x=xv) (hsrc:Src P size tx xv m news w)
  (h63:n+m≤maxLen) (hbytes:(n+m)*bytes≤140737488355328)
  (h:∀ v' w',Row w' e size v' (n+m) (xs++news)→Chg (fun k=>v.ownBlock=some k) w w'→(v'.ownBlock=v.ownBlock∨v'.ownBlock=some w.heap.size)→wpList P ops Q rest (a.put o.dst v') w'):wpList P ops Q (o::rest) a w :=
 wpList_plain hgd fun _ hK=>Uo w s x t tx ho e i z size bytes ht hi hz hsize hby hzs hsz v n xs hs hown xv m news hx hsrc h63 hbytes fun v' w' h2 h3 h4=>hK _ _ (h v' w' h2 h3 h4)
theorem U4 {P:Program} {ops:Array Oper} {rest:List Oper} {o:Oper} {a:Act} {w:World} {Q:Exit→Act→World→Prop} (hgd:o.guard=none) (ty:TypeId) (x:Operand) (ho:o.op=.load ty x)
  (g:Nat) (hx:a.eval x=.pointer (some ⟨g,0,none⟩)) {t:TypeId} {cs:Array Value} {d:TypeDesc} (hB:Blk w g t cs)
  (hu:P.underlying ty=some d) (hd:(match d with|.struct _|.array _ _=>true|_=>false)=true) (hi:(P.info? ty).map (·.size)=some cs.size)
  (h:wpList P ops Q rest (a.put o.dst (.agg cs)) w):wpList P ops Q (o::rest) a w :=
 wpList_load_row hgd ty x ho g hx t cs (0,0) d hB hu hd hi h
theorem KS {P:Program} {ops:Array Oper} {rest:List Oper} {o:Oper} {a:Act} {w:World} {Q:Exit→Act→World→Prop} (hgd:o.guard=none) (ty:TypeId) (x y:Operand) (ho:o.op=.store ty x y)
  (g:Nat) (cells:Array Value) (hx:a.eval x=.pointer (some ⟨g,0,none⟩)) (hy:a.eval y=.agg cells) {t:TypeId} {old:Array Value} (hB:Blk w g t old)
  (hi:(P.info? ty).map (·.size)=some cells.size) (hs:old.size=cells.size) (h1:∀ u∈cells.toList,u.oneCell'=true)
  (h:∀ w',Blk w' g t cells→Chg (fun k=>k=g) w w'→wpList P ops Q rest (a.put o.dst undef) w'):wpList P ops Q (o::rest) a w:=by
 refine wpList_plain hgd fun _ hK=>?_
 unfold Oper.wp execOp
 simp only [ho,hx,hy,Instr.storeAt,Instr.sureAddr,Sem.run_bind,Sem.run_pure,Result.andThen_ok,
  run_storeVar_row w g t ty old cells hB hi hs (Array.all_eq_true_iff_forall_mem.2 (fun v hv=>h1 v (by simpa using hv)))]
 exact hK _ _<|h _ (setRow_heap _ _ _ _ _ _ hB)<|(Chg.refl (fun k=>k=g) w).setRow (.inl Z) _
theorem Xo {P:Program} {fn:Func} {p:Tmp} {ty:TypeId} (h:fn.results=#[.cell p ty]) (tmps:Array Value) (w:World) (g:Nat) {t:TypeId} {cs:Array Value} {d:TypeDesc}
  (hp:tmps.getD p undef=.pointer (some ⟨g,0,none⟩)) (hB:Blk w g t cs)
  (hu:P.underlying ty=some d) (hd:(match d with|.struct _|.array _ _=>true|_=>false)=true) (hi:(P.info? ty).map (·.size)=some cs.size) :
  (results fn tmps).run P w=.ok (.agg cs) w:=results_cell_row h tmps w g t cs (0,0) d hp hB hu hd hi
theorem Blk.of_row {w:World} {g:Nat} {t:TypeId} {n:Nat} {f:Nat→Value} {cs:Array Value} (h:w.rowIs g t n f) (hn:cs.size=n) (hc:∀ i,i<n→cs[i]?=some (f i)):Blk w g t cs:=by
 obtain ⟨c,hb,hs,hi⟩:=h;unfold Blk;rw [hb]
 congr 2
 apply Array.ext_getElem?
 intro i
 by_cases hlt:i<n
 ·rw [hi i hlt,hc i hlt]
 ·rw [Array.getElem?_eq_none (by omega),Array.getElem?_eq_none (by omega)]
theorem Blk.row {w:World} {g:Nat} {t:TypeId} {cs:Array Value} (h:Blk w g t cs) {n:Nat} {f:Nat→Value} (hn:cs.size=n) (hc:∀ i,i<n→cs[i]?=some (f i)):w.rowIs g t n f:=⟨cs,h,hn,hc⟩
def bv (b:UInt8):Value:=.int .u8 b.toNat
theorem Y5 (l:List UInt8):∀ u∈l.map bv,u.oneCell'=true:=by
 intro u hu;obtain ⟨_,_,rfl⟩:=List.mem_map.1 hu
 rfl
theorem Xl {P:Program} (w:World) (src dst e:TypeId) (v:Value) (n:Nat) (l:List UInt8) (hs:P.underlying src=some (.slice e)) (he:P.underlying e=some (.int .u8)) (hd:P.underlying dst=some .string)
  (h:Row w e 1 v n (l.map bv)):(convert src dst v).run P w=.ok (.string ⟨l.toArray⟩) w:=by
 have hl:l.length=n:=by have:=h.1; simpa using this
 subst hl
 rcases Nat.eq_zero_or_pos l.length with h0|h0
 ·obtain rfl:l=[]:=List.eq_nil_of_length_eq_zero h0;obtain ⟨a,cap,rfl,_,_⟩:=h.shape
  cases a with
  | none=>exact run_convert_bytes_nil (P:=P) w src e hs he 0 cap dst hd
  | some a=>exact run_convert_bytes_back (P:=P) w src dst e a cap [] hs he hd (fun j hj=>by simp at hj)
 ·obtain ⟨g,off,cap,rfl,_,_,_,hc,_⟩:=h.form h0
  exact run_convert_bytes_back (P:=P) w src dst e _ cap l hs he hd (fun j hj=>by
   rw [Addr.add_lit]
   exact hc j _ (by rw [List.getElem?_map,List.getElem?_eq_getElem hj]; rfl))
theorem Qat {P:Program} (w:World) {g:Nat} {bt:TypeId} {cs:Array Value} (hB:Blk w g bt cs) (t ty e:TypeId) (i:TypeInfo) (ht:P.underlying t=some (.slice e)) (hi:P.info? e=some i) (h1:i.size=1)
  (d so n dl dc sc:Nat) (hn:n≤dl) (hd:d+n≤cs.size) (hs:so+n≤cs.size) (hone:∀ u∈cs.toList,u.oneCell'=true) :
  (Builtin.copy_ #[t,t] ty #[.slice (some ⟨g,d,none⟩) dl dc,.slice (some ⟨g,so,none⟩) n sc]).run P w =
   .ok (.int .i64 n) (w.setRow g (cs.toList.take d++(cs.toList.drop so).take n++cs.toList.drop (d+n)).toArray):=by
 have hl:((cs.toList.drop so).take n).length=n:=by simp; omega
 have hf:=run_firstCells_some (P:=P) w 1 n ⟨g,so,none⟩ n sc ((cs.toList.drop so).take n) (by omega) (fun j u hu=>by
  rw [Addr.add_lit,hB.cell];rw [List.getElem?_take] at hu
  split at hu
  ·rw [List.getElem?_drop] at hu; simpa using hu
  ·cases hu)
 have hst:=run_storeCells_at P g d bt ((cs.toList.drop so).take n) 0 cs w hB (by omega) (fun u hu=>hone u (List.mem_of_mem_drop (List.mem_of_mem_take hu)));rw [hl] at hst;simp only [Nat.add_zero] at hst;have hmin:Nat.min n dl=n:=Nat.min_eq_left hn;simp [Builtin.copy_,run_underlying ht,Builtin.lenOf,hmin,sizeOf,typeInfo,hi,h1,hf,hst,goInt]
end
section
open Go.RowKit
def Reads (w:World) (size:Nat) (v:Value) (n:Nat) (xs:List Value):Prop :=
  xs.length=n*size∧∃ a cap,v=.slice a n cap∧n≤cap∧cap≤maxLen ∧
    (0<n→∃ g off,a=some ⟨g,off,none⟩∧g<w.heap.size∧∀ j u,xs[j]?=some u→w.cell? ⟨g,off+j,none⟩=some u)
theorem Reads.belowAll {w w':World} {size:Nat} {v:Value} {n:Nat} {xs:List Value} (h:Reads w size v n xs) (hb:Below w.heap.size w w'):Reads w' size v n xs:=by
 obtain ⟨h1,a,cap,h2,h3,h4,h5⟩:=h;refine ⟨h1,a,cap,h2,h3,h4,fun hn=>?_⟩;obtain ⟨g,off,e,hg,hc⟩:=h5 hn;exact ⟨g,off,e,Nat.lt_of_lt_of_le hg hb.size,fun j u hu=>(hb.cell (p:=⟨g,off+j,none⟩) hg).trans (hc j u hu)⟩
theorem Row.reads {w:World} {e:TypeId} {size:Nat} {v:Value} {n:Nat} {xs:List Value} (h:Row w e size v n xs):Reads w size v n xs:=by
 obtain ⟨a,cap,hv,h1,h2⟩:=h.shape;refine ⟨h.1,a,cap,hv,h1,h2,fun hn=>?_⟩;obtain ⟨g,off,cap',hv',hob,_,_,hc,_⟩:=h.form hn;rw [hv] at hv';injection hv' with ha _ _;exact ⟨g,off,ha,h.lt g hob,hc⟩
theorem Reads.nle {w:World} {size:Nat} {v:Value} {n:Nat} {xs:List Value} (h:Reads w size v n xs):n≤9223372036854775807:=by
 obtain ⟨_,a,cap,_,h1,h2,_⟩:=h;unfold maxLen at h2
 omega
end
section
open Go.RowKit
section
variable {P:Program} {ops:Array Oper} {Q:Exit→Act→World→Prop} {S:World→Prop} {a:Act} {w:World} {o:Oper} {l:List Oper} {bs:List Bool}
def Qck (ops:Array Oper):List Bool→Nat→Array Bool→Bool
  | [],_,listed=>(Region.ready .any ops listed).isEmpty
  | true::r,i,listed=>Region.free .any ops listed i && (Region.ready .any ops listed).contains i && Qck ops r (i+1) (listed.setIfInBounds i true)
  | false::r,i,listed=>(Region.ready .any ops listed == [i]) && Qck ops r (i+1) (listed.setIfInBounds i true)
def J8 (P:Program) (ops:Array Oper) (Q:Exit→Act→World→Prop) (S:World→Prop):List Oper→List Bool→Act→World→Prop
  | o::l,true::r,a,w=>∃ v,YieldsIf P ops S o v a∧J8 P ops Q S l r (a.put o.dst v) w
  | o::l,false::r,a,w=>if Region.wanted o (yielded ops a.tmps) then o.wp P a w (fun a' w'=>S w'∧J8 P ops Q S l r a' w') Q else S w∧J8 P ops Q S l r (a.put o.dst undef) w
  | _,_,a,w=>Q .normal a w
theorem Uq (hs:Region.noSelect ops=true) (hQ:∀ c a d v w,Q (.panic c) (a.put d v) w→Q (.panic c) a w) :
  ∀ (l:List Oper) (r:List Bool) (k:Nat) (listed:Array Bool) (a:Act) (w:World),(∀ j,l[j]?=ops[k+j]?)→r.length=l.length→Qck ops r k listed=true→S w→J8 P ops Q S l r a w→wpAnyH P .any ops Q S l.length listed a w
 | [],[],k,listed,a,w,_,_,hok,_,h=>wpAnyH_done (by simpa [Qck] using hok) h _
 | o::l,true::r,k,listed,a,w,hl,hr,hok,hS,h=>by
  simp only [Qck,Bool.and_eq_true] at hok;obtain ⟨v,hy,h⟩:=h
  have ho:ops[k]?=some o:=by simpa using (hl 0).symm
  exact wpAnyH_take ho hs hok.1.1 hok.1.2 (fun c a w=>hQ c a _ _ w) hy hS<|Uq hs hQ l r (k+1) _ _ _ (fun j=>by have:=hl (j+1); simpa [Nat.add_assoc,Nat.add_comm 1 j] using this) (by simpa using hr) hok.2 hS h
 | o::l,false::r,k,listed,a,w,hl,hr,hok,hS,h=>by
  simp only [Qck,Bool.and_eq_true,beq_iff_eq] at hok
  have ho:ops[k]?=some o:=by simpa using (hl 0).symm
  refine wpAnyH_all hok.1 (by simp) fun j hj=>?_
  obtain rfl:j=k:=by simpa using hj
  have hn:∀ a' w',S w'∧J8 P ops Q S l r a' w'→S w'∧wpAnyH P .any ops Q S l.length (listed.setIfInBounds j true) a' w':=fun a' w' h' =>
   ⟨h'.1,Uq hs hQ l r (j+1) _ _ _ (fun i=>by have:=hl (i+1); simpa [Nat.add_assoc,Nat.add_comm 1 i] using this) (by simpa using hr) hok.2 h'.1 h'.2⟩
  refine wpOp_mono hn ?_;unfold wpOp;simp only [ho];unfold J8 at h
  split
  ·rename_i hw; rw [if_pos hw] at h; exact .inl h
  ·rename_i hw; rw [if_neg hw] at h; exact h
 | [],true::_,_,_,_,_,_,hr,_,_,_=>by simp at hr
 | [],false::_,_,_,_,_,_,hr,_,_,_=>by simp at hr
 | _::_,[],_,_,_,_,_,hr,_,_,_=>by simp at hr
theorem Un {id:Nat} {l:List Oper} (S:World→Prop) (r:List Bool) (hm:P.follows .mixedOrders=true) (hok:(Region.noSelect l.toArray && Qck l.toArray r 0 (Array.replicate l.toArray.size false) && (r.length == l.length))=true)
  (hQ:∀ c a d v w,Q (.panic c) (a.put d v) w→Q (.panic c) a w) (hS:S w.drew) (h:J8 P l.toArray Q S l r a w.drew):(Code.region id l.toArray true).wp P Q a w:=by
 simp only [Bool.and_eq_true,beq_iff_eq] at hok;refine wp_region_held (S:=S) hm ?_
 have:=Uq hok.1.1 hQ l r 0 _ _ _ (by simp) hok.2 hok.1.2 hS h
 simpa using this
def ZG (l:List Oper):List Nat→List Oper
  | []=>[]
  | i::r=>l.getD i default::ZG l r
def Kz (ops:Array Oper):List Nat→List Bool→Array Bool→Bool
  | i::is,true::r,listed=>decide (i<ops.size) && Region.free .any ops listed i && (Region.ready .any ops listed).contains i && Kz ops is r (listed.setIfInBounds i true)
  | i::is,false::r,listed=>decide (i<ops.size) && (Region.ready .any ops listed == [i]) && Kz ops is r (listed.setIfInBounds i true)
  | [],[],listed=>(Region.ready .any ops listed).isEmpty
  | _,_,_=>false
theorem Ks {l:List Oper} (hs:Region.noSelect l.toArray=true) (hQ:∀ c a d v w,Q (.panic c) (a.put d v) w→Q (.panic c) a w) :
  ∀ (is:List Nat) (r:List Bool) (listed:Array Bool) (a:Act) (w:World),Kz l.toArray is r listed=true→S w→J8 P l.toArray Q S (ZG l is) r a w→wpAnyH P .any l.toArray Q S is.length listed a w
 | [],[],listed,a,w,hok,_,h=>wpAnyH_done (by simpa [Kz] using hok) h _
 | i::is,true::r,listed,a,w,hok,hS,h=>by
  simp only [Kz,Bool.and_eq_true,decide_eq_true_eq] at hok;obtain ⟨v,hy,h⟩:=h
  have hi:i<l.length:=by simpa using hok.1.1.1
  have ho:l.toArray[i]?=some (l.getD i default):=by simp [hi]
  exact wpAnyH_take ho hs hok.1.1.2 hok.1.2 (fun c a w=>hQ c a _ _ w) hy hS<|Ks hs hQ is r _ _ _ hok.2 hS h
 | i::is,false::r,listed,a,w,hok,hS,h=>by
  simp only [Kz,Bool.and_eq_true,decide_eq_true_eq,beq_iff_eq] at hok
  have hi:i<l.length:=by simpa using hok.1.1
  have ho:l.toArray[i]?=some (l.getD i default):=by simp [hi]
  refine wpAnyH_all hok.1.2 (by simp) fun j hj=>?_
  obtain rfl:j=i:=by simpa using hj
  have hn:∀ a' w',S w'∧J8 P l.toArray Q S (ZG l is) r a' w'→S w'∧wpAnyH P .any l.toArray Q S is.length (listed.setIfInBounds j true) a' w':=fun a' w' h' =>
   ⟨h'.1,Ks hs hQ is r _ _ _ hok.2 h'.1 h'.2⟩
  refine wpOp_mono hn ?_;unfold wpOp;simp only [ho];unfold ZG J8 at h
  split
  ·rename_i hw; rw [if_pos hw] at h; exact .inl h
  ·rename_i hw; rw [if_neg hw] at h; exact h
 | [],_::_,_,_,_,hok,_,_=>by simp [Kz] at hok
 | _::_,[],_,_,_,hok,_,_=>by simp [Kz] at hok
theorem Zt {id:Nat} {l:List Oper} (S:World→Prop) (is:List Nat) (r:List Bool) (hm:P.follows .mixedOrders=true) (hok:(Region.noSelect l.toArray && Kz l.toArray is r (Array.replicate l.toArray.size false) && (is.length == l.length))=true)
  (hQ:∀ c a d v w,Q (.panic c) (a.put d v) w→Q (.panic c) a w) (hS:S w.drew) (h:J8 P l.toArray Q S (ZG l is) r a w.drew):(Code.region id l.toArray true).wp P Q a w:=by
 simp only [Bool.and_eq_true,beq_iff_eq] at hok;refine wp_region_held (S:=S) hm ?_
 have:=Ks hok.1.1 hQ is r _ _ _ hok.1.2 hS h
 rw [hok.2] at this
 simpa using this
theorem Z3 (h:Q .normal a w):J8 P ops Q S [] [] a w:=h
theorem Qh (v:Value) (hw:Region.wanted o (yielded ops a.tmps)=true) (hr:∀ w,S w→(execOp a.eval o).run P w=.ok (.value v) w)
  (h:J8 P ops Q S l bs (a.put o.dst v) w):J8 P ops Q S (o::l) (true::bs) a w:=⟨v,.inl ⟨hw,hr⟩,h⟩
theorem Qtl (hw:Region.wanted o (yielded ops a.tmps)=false) (h:J8 P ops Q S l bs (a.put o.dst undef) w):J8 P ops Q S (o::l) (true::bs) a w :=
 ⟨undef,.inr ⟨hw,rfl⟩,h⟩
theorem Ye (hw:Region.wanted o (yielded ops a.tmps)=true)
  (h:∀ K:Act→World→Prop,(∀ a w,S w→J8 P ops Q S l bs a w→K a w)→o.wp P a w K Q):J8 P ops Q S (o::l) (false::bs) a w:=by
 unfold J8;rw [if_pos hw]
 exact h _ fun a w hS h=>⟨hS,h⟩
theorem Qbs (hw:Region.wanted o (yielded ops a.tmps)=false) (hS:S w) (h:J8 P ops Q S l bs (a.put o.dst undef) w):J8 P ops Q S (o::l) (false::bs) a w:=by
 unfold J8;rw [if_neg (by simp [hw])];exact ⟨hS,h⟩
theorem ZE (f:FuncId) (args:List Operand) (ats:Array TypeId) {fn:Func} {c:Code} (vs:List Value) (hop:o.op=.call { callee:=.value (.func f),args:=args.toArray,argTypes:=ats })
  (hw : Region.wanted o (yielded ops a.tmps) = true) (hf : P.funcs[f]? = some fn) (hb : fn.body = some c) (hname : (fn.name == "runtime.NumGoroutine") = false) (hvs : args.map a.eval = vs)
  (hc:Calls P f vs.toArray w (fun e w'=>∃ v,e=.returned v∧S w'∧J8 P ops Q S l bs (a.put o.dst v) w')):J8 P ops Q S (o::l) (false::bs) a w :=
 Ye hw fun K hK=>by
  unfold Oper.wp execOp
  have h2 : fn.name ≠ "runtime.NumGoroutine" := by simpa using hname
  simp only [hop,resolve,invoke];simp [Deferred.ofValue,Act.eval,callFunc,hf,hb,h2,mark,← hvs] at hc ⊢
  refine Calls.mono hc fun e w' h=>?_
  obtain ⟨v,rfl,hS,h⟩:=h;exact hK _ _ hS h
theorem Hp (v:Value) (w':World) (hw:Region.wanted o (yielded ops a.tmps)=true) (hr:(execOp a.eval o).run P w=.ok (.value v) w') (hS:S w')
  (h:J8 P ops Q S l bs (a.put o.dst v) w'):J8 P ops Q S (o::l) (false::bs) a w :=
 Ye hw fun K hK=>by
  unfold Oper.wp;rw [hr];exact hK _ _ hS h
end
end
section
open Go.RowKit
theorem notT {b:Bool} (h:(!b)=true):b=false:=by cases b <;> simp_all
theorem notF {b:Bool} (h:(!b)=false):b=true:=by cases b <;> simp_all
abbrev Env:=List (Nat×Value)
def lk:Env→Nat→Option Value
  | [],_=>none
  | (d,v)::l,t=>bif Nat.beq t d then some v else lk l t
def ev (l:Env):Operand→Option Value
  | .tmp t=>lk l t
  | .const v=>some v
  | .global g=>some (.pointer (some ⟨g,0,none⟩))
  | .func f=>some (.func (.func f) #[] #[])
structure Rep (N:Nat) (ds:List Deferred) (l:Env) (a:Act):Prop where
  size:a.tmps.size=N
  defers:a.defers=ds
  val:∀ t v,lk l t=some v→a.tmps.getD t undef=v
def Qma (l:Env) (ρ:Operand→Value):Prop:=∀ x v,ev l x=some v→ρ x=v
theorem Rep.knows {N:Nat} {ds:List Deferred} {l:Env} {a:Act} (h:Rep N ds l a):Qma l a.eval:=by
 intro x v hx
 cases x with
 | tmp t=>exact h.val t v hx
 | const u=>injection hx
 | «global» g=>injection hx
 | func f=>injection hx
theorem Rep.put {N:Nat} {ds:List Deferred} {l:Env} {a:Act} (h:Rep N ds l a) {d:Nat} (hd:Nat.blt d N=true) (v:Value):Rep N ds ((d,v)::l) (a.put (some d) v):=by
 have hd':d<a.tmps.size:=by rw [h.size]; exact of_decide_eq_true (by simpa [Nat.blt_eq] using hd)
 refine ⟨by simpa [Act.put] using h.size,h.defers,fun t u hu=>?_⟩;unfold lk at hu
 cases ht:Nat.beq t d with
 | true =>
  rw [ht] at hu;have e:t=d:=Nat.eq_of_beq_eq_true ht;subst e;simp only [cond_true,Option.some.injEq] at hu;subst hu;simp [Act.put,hd']
 | false =>
  rw [ht] at hu;have e:t≠d:=Nat.ne_of_beq_eq_false ht
  have:=h.val t u hu
  simp only [Act.put,Array.getD_eq_getD_getElem?] at this ⊢;rw [Array.getElem?_setIfInBounds];rw [if_neg (fun h=>e h.symm)];exact this
def sub:Env→Env→Prop
  | [],_=>True
  | (t,v)::r,l=>lk l t=some v∧sub r l
theorem sub_lk:∀ {r l:Env},sub r l→∀ t v,lk r t=some v→lk l t=some v
 | [],_,_,_,_,h=>by cases h
 | (d,u)::r,l,hs,t,v,h=>by
  unfold lk at h
  cases ht:Nat.beq t d with
  | true =>
   rw [ht] at h;have e:t=d:=Nat.eq_of_beq_eq_true ht;subst e;simp only [cond_true,Option.some.injEq] at h;subst h;exact hs.1
  | false =>
   rw [ht] at h;exact sub_lk hs.2 t v h
theorem Rep.sub {N:Nat} {ds:List Deferred} {r l:Env} {a:Act} (h:Rep N ds l a) (hs:sub r l):Rep N ds r a :=
 ⟨h.size,h.defers,fun t v ht=>h.val t v (sub_lk hs t v ht)⟩
abbrev Post:=Exit→Env→World→Prop
def X3 (N:Nat) (ds:List Deferred) (Q:Post):Exit→Act→World→Prop:=fun e a w=>∃ l,Rep N ds l a∧Q e l w
def W (P:Program) (N:Nat) (ds:List Deferred) (Q:Post) (c:Code) (l:Env) (w:World):Prop:=∀ a,Rep N ds l a→c.wp P (X3 N ds Q) a w
def WL (P:Program) (N:Nat) (ds:List Deferred) (ops:Array Oper) (Q:Post) (os:List Oper) (l:Env) (w:World):Prop:=∀ a,Rep N ds l a→wpList P ops (X3 N ds Q) os a w
def X6 (next:Env→World→Prop) (Q:Post):Post
  | .normal,l,w=>next l w
  | e,l,w=>Q e l w
def inB (id:Nat) (Q:Post):Post
  | .exit i,l,w=>bif Nat.beq i id then Q .normal l w else Q (.exit i) l w
  | e,l,w=>Q e l w
section
variable {P:Program} {N:Nat} {ds:List Deferred} {Q:Post} {l r:Env} {w:World} {next:Env→World→Prop} {id i:Nat}
theorem tN (h:next l w):X6 next Q .normal l w:=h
theorem tR (h:Q .ret l w):X6 next Q .ret l w:=h
theorem tE (h:Q (.exit i) l w):X6 next Q (.exit i) l w:=h
theorem tG (h:Q (.goto i) l w):X6 next Q (.goto i) l w:=h
theorem bN (h:Q .normal l w):inB id Q .normal l w:=h
theorem bR (h:Q .ret l w):inB id Q .ret l w:=h
theorem bG (h:Q (.goto i) l w):inB id Q (.goto i) l w:=h
theorem bH (h:Q .normal l w):inB id Q (.exit id) l w:=by
 show (bif Nat.beq id id then Q .normal l w else Q (.exit id) l w)
 rw [show Nat.beq id id=true from Nat.beq_refl id];exact h
theorem bM (hn:Nat.beq i id=false) (h:Q (.exit i) l w):inB id Q (.exit i) l w:=by
 show (bif Nat.beq i id then Q .normal l w else Q (.exit i) l w)
 rw [hn];exact h
theorem Qt {c:Code} (r:Env) (h:W P N ds Q c r w) (hs:sub r l):W P N ds Q c l w:=fun a ha=>h a (ha.sub hs)
theorem Qf (h:Q .normal l w):W P N ds Q .skip l w:=fun _ ha=>wp_skip ⟨_,ha,h⟩
theorem Qg (h:Q .ret l w):W P N ds Q .ret l w:=fun _ ha=>wp_ret ⟨_,ha,h⟩
theorem QQ (h:Q (.exit i) l w):W P N ds Q (.exit i) l w:=fun _ ha=>wp_exit ⟨_,ha,h⟩
theorem Qe {x y:Code} (h:W P N ds (X6 (W P N ds Q y) Q) x l w):W P N ds Q (.seq x y) l w:=by
 intro a ha
 refine wp_seq<|Code.wp_mono (fun e a w hq=>?_)<|h a ha
 obtain ⟨l',hr,hq⟩:=hq
 cases e with
 | normal=>exact hq a hr
 | _=>exact ⟨l',hr,hq⟩
theorem Qx {x y:Code} {c:Operand} {b:Bool} (hc:ev l c=some (.bool b)) (h1:b=true→W P N ds Q x l w) (h0:b=false→W P N ds Q y l w):W P N ds Q (.cond c x y) l w :=
 fun a ha=>wp_cond_split (ha.knows _ _ hc) (fun h=>h1 h a ha) (fun h=>h0 h a ha)
theorem QO {x y:Code} {c:Operand} {b:Bool} (hc:ev l c=some (.bool b)) (hb:b=true) (h:W P N ds Q x l w):W P N ds Q (.cond c x y) l w :=
 Qx hc (fun _=>h) (fun h0=>by rw [hb] at h0; cases h0)
theorem QX {x y:Code} {c:Operand} {b:Bool} (hc:ev l c=some (.bool b)) (hb:b=false) (h:W P N ds Q y l w):W P N ds Q (.cond c x y) l w :=
 Qx hc (fun h0=>by rw [hb] at h0; cases h0) (fun _=>h)
theorem Qp {c:Code} (h:W P N ds (inB id Q) c l w):W P N ds Q (.block id c) l w:=by
 intro a ha
 refine wp_block<|Code.wp_mono (fun e a w hq=>?_)<|h a ha
 obtain ⟨l',hr,hq⟩:=hq
 cases e with
 | exit i =>
  replace hq:(bif Nat.beq i id then Q .normal l' w else Q (.exit i) l' w):=hq
  show (if i=id then X3 N ds Q .normal a w else X3 N ds Q (.exit i) a w)
  by_cases hi:i=id
  ·subst hi;rw [show Nat.beq i i=true from Nat.beq_refl i] at hq;rw [if_pos rfl];exact ⟨l',hr,hq⟩
  ·rw [show Nat.beq i id=false from by
    cases hb:Nat.beq i id with
    | false=>rfl
    | true=>exact absurd (Nat.eq_of_beq_eq_true hb) hi] at hq
   rw [if_neg hi];exact ⟨l',hr,hq⟩
 | _=>exact ⟨l',hr,hq⟩
def Qxq (I:Nat→Env→World→Prop) (n:Nat) (l:Env) (w:World):Prop:=∃ m r,m<n∧I m r w∧sub r l
theorem W_loop {c:Code} (I:Nat→Env→World→Prop) (n:Nat) (h0:I n l w) (hr:∀ n l w,I n l w→W P N ds (X6 (Qxq I n) Q) c l w):W P N ds Q (.loop c) l w:=by
 intro a ha b k cs;have key:∀ n a w l,Rep N ds l a→I n l w →
   ∃ e a' w',X3 N ds Q e a' w'∧Arrives P (lone (b.at a (.code c::.inLoop c::k)) cs w) b k cs e a' w':=by
  intro n
  induction n using Nat.strongRecOn with
  | _ n ih =>
   intro a w l ha hI;obtain ⟨e,a₁,w₁,hq,harr⟩:=hr n l w hI a ha b (.inLoop c::k) cs;obtain ⟨l',hl',hq⟩:=hq
   cases e with
   | normal =>
    obtain ⟨m,r,hm,hI',hs⟩:=hq;obtain ⟨e₂,a₂,w₂,hq₂,harr₂⟩:=ih m hm a₁ w₁ r (hl'.sub hs) hI';exact ⟨e₂,a₂,w₂,hq₂,.of_steps (Steps.trans harr (.one step_inLoop)) harr₂⟩
   | exit id=>exact ⟨_,a₁,w₁,⟨l',hl',hq⟩,.pass (x:=.inLoop c) rfl (fun _ _=>.inl (by simp)) harr⟩
   | goto l=>exact ⟨_,a₁,w₁,⟨l',hl',hq⟩,.pass (x:=.inLoop c) rfl (fun _ _=>.inl (by simp)) harr⟩
   | ret=>exact ⟨_,a₁,w₁,⟨l',hl',hq⟩,.pass (x:=.inLoop c) rfl (fun _ _=>.inl (by simp)) harr⟩
   | panic ch=>exact ⟨_,a₁,w₁,⟨l',hl',hq⟩,.pass (x:=.inLoop c) rfl (fun _ _=>.inl (by simp)) harr⟩
   | outgrown=>exact ⟨_,a₁,w₁,⟨l',hl',hq⟩,.pass (x:=.inLoop c) rfl (fun _ _=>.inl (by simp)) harr⟩
 obtain ⟨e,a',w',hq,harr⟩:=key n a w l ha h0;exact ⟨e,a',w',hq,.of_steps (.one step_loop) harr⟩
theorem JG {c:Code} (I:Nat→Env→World→Prop) (n:Nat) (h0:∃ r,I n r w∧sub r l) (hr:∀ n l w,I n l w→W P N ds (X6 (Qxq I n) Q) c l w):W P N ds Q (.loop c) l w:=by
 obtain ⟨r,h1,h2⟩:=h0;exact Qt r (W_loop I n h1 hr) h2
theorem Qw {os:List Oper} (h:WL P N ds os.toArray Q os l w):W P N ds Q (.region id os.toArray false) l w:=fun a ha=>wp_region_lit (h a ha)
theorem Qa {os:List Oper} {y:Code} (h:WL P N ds os.toArray (X6 (W P N ds Q y) Q) os l w):W P N ds Q (.seq (.region id os.toArray false) y) l w:=Qe (Qw h)
end
def X (P:Program) (l:Env) (op:Op) (ty:TypeId) (w:World) (v:Value) (w':World):Prop :=
  ∀ ρ, Qma l ρ → (execOp ρ ⟨none, op, ty, "", #[], none⟩).run P w = .ok (.value v) w'
def Xs (P:Program) (l:Env) (op:Op) (ty:TypeId) (w:World) (w':World):Prop :=
  ∀ ρ, Qma l ρ → (execOp ρ ⟨none, op, ty, "", #[], none⟩).run P w = .ok .skip w'
section
variable {P:Program} {N:Nat} {ds:List Deferred} {Q:Post} {l r:Env} {w w':World} {ops:Array Oper} {rest:List Oper} {op:Op} {ty:TypeId} {pos:String} {aft:Array Edge} {d:Nat} {v:Value}
theorem Wn (h:Q .normal l w):WL P N ds ops Q [] l w:=fun _ ha=>wpList_nil ⟨_,ha,h⟩
theorem WL_sub (r:Env) {os:List Oper} (h:WL P N ds ops Q os r w) (hs:sub r l):WL P N ds ops Q os l w:=fun a ha=>h a (ha.sub hs)
theorem st (hx:X P l op ty w v w') (hd:Nat.blt d N=true) (h:WL P N ds ops Q rest ((d,v)::l) w'):WL P N ds ops Q (⟨some d,op,ty,pos,aft,none⟩::rest) l w:=by
 intro a ha
 refine wpList_plain Z fun K hK=>?_
 unfold Oper.wp
 have:(execOp a.eval ⟨some d,op,ty,pos,aft,none⟩).run P w=.ok (.value v) w':=hx _ ha.knows
 rw [this]
 exact hK _ _<|h _<|ha.put hd v
theorem ss (hx:Xs P l op ty w w') (h:WL P N ds ops Q rest l w'):WL P N ds ops Q (⟨none,op,ty,pos,aft,none⟩::rest) l w:=by
 intro a ha
 refine wpList_plain Z fun K hK=>?_
 unfold Oper.wp
 have:(execOp a.eval ⟨none,op,ty,pos,aft,none⟩).run P w=.ok .skip w':=hx _ ha.knows
 rw [this]
 exact hK _ _<|h _ ha
theorem sm {x:Operand} (hx:ev l x=some v) (hd:Nat.blt d N=true) (h:WL P N ds ops Q rest ((d,v)::l) w):WL P N ds ops Q (⟨some d,.move x,ty,pos,aft,none⟩::rest) l w :=
 st (fun ρ hρ=>by rw [← hρ _ _ hx]; rfl) hd h
theorem sa {x:Operand} (hx:ev l x=some v) (hd:Nat.blt d N=true) (h:WL P N ds ops Q rest ((d,v)::l) w):WL P N ds ops Q (⟨some d,.assign x,ty,pos,aft,none⟩::rest) l w :=
 st (fun ρ hρ=>by rw [← hρ _ _ hx]; rfl) hd h
theorem sb {x:Operand} {b:Bool} (hx:ev l x=some (.bool b)) (hd:Nat.blt d N=true) (h1:b=true→WL P N ds ops Q rest ((d,.bool true)::l) w) (h0:b=false→WL P N ds ops Q rest ((d,.bool false)::l) w) :
  WL P N ds ops Q (⟨some d,.move x,ty,pos,aft,none⟩::rest) l w:=by
 cases b with
 | true=>exact sm hx hd (h1 rfl)
 | false=>exact sm hx hd (h0 rfl)
theorem UP {x:Operand} {b:Bool} (hx:ev l x=some (.bool b)) (hb:b=true) (hd:Nat.blt d N=true) (h:WL P N ds ops Q rest ((d,.bool true)::l) w):WL P N ds ops Q (⟨some d,.move x,ty,pos,aft,none⟩::rest) l w:=by
 subst hb; exact sm hx hd h
theorem sbN {x:Operand} {b:Bool} (hx:ev l x=some (.bool b)) (hb:b=false) (hd:Nat.blt d N=true) (h:WL P N ds ops Q rest ((d,.bool false)::l) w):WL P N ds ops Q (⟨some d,.move x,ty,pos,aft,none⟩::rest) l w:=by
 subst hb; exact sm hx hd h
theorem gY {dst:Option Nat} {j g:Nat} {b:Bool} (hj:(ops[j]?).bind (·.dst)=some g) (hg:lk l g=some (.bool b)) (hN:Nat.blt g N=true) (h:WL P N ds ops Q (⟨dst,op,ty,pos,aft,none⟩::rest) l w) :
  WL P N ds ops Q (⟨dst,op,ty,pos,aft,some (j,b)⟩::rest) l w:=by
 intro a ha;have h:=h a ha
 have hs:g<a.tmps.size:=by rw [ha.size]; exact of_decide_eq_true (by simpa [Nat.blt_eq] using hN)
 have hv:=ha.val g _ hg
 have hy:yielded ops a.tmps j=some b:=by
  unfold yielded;rw [hj];simp only [Option.bind_some];rw [Array.getElem?_eq_getElem hs];simp only [Array.getD_eq_getD_getElem?,Array.getElem?_eq_getElem hs,Option.getD_some] at hv;rw [hv]
 unfold wpList at h ⊢;rw [if_pos (by simp [Region.wanted])] at h;rw [if_pos (by simp [Region.wanted,hy])];exact h
theorem gN {d j g:Nat} {b:Bool} (hj:(ops[j]?).bind (·.dst)=some g) (hg:lk l g=some (.bool !b)) (hN:Nat.blt g N=true) (hd:Nat.blt d N=true) (h:WL P N ds ops Q rest ((d,undef)::l) w) :
  WL P N ds ops Q (⟨some d,op,ty,pos,aft,some (j,b)⟩::rest) l w:=by
 intro a ha
 have hs:g<a.tmps.size:=by rw [ha.size]; exact of_decide_eq_true (by simpa [Nat.blt_eq] using hN)
 have hv:=ha.val g _ hg
 have hy:yielded ops a.tmps j=some !b:=by
  unfold yielded;rw [hj];simp only [Option.bind_some];rw [Array.getElem?_eq_getElem hs];simp only [Array.getD_eq_getD_getElem?,Array.getElem?_eq_getElem hs,Option.getD_some] at hv;rw [hv]
 unfold wpList;rw [if_neg (by simp [Region.wanted,hy])]
 exact h _<|ha.put hd undef
theorem gU {d j g:Nat} {b:Bool} (hj:(ops[j]?).bind (·.dst)=some g) (hg:lk l g=some undef) (hN:Nat.blt g N=true) (hd:Nat.blt d N=true) (h:WL P N ds ops Q rest ((d,undef)::l) w) :
  WL P N ds ops Q (⟨some d,op,ty,pos,aft,some (j,b)⟩::rest) l w:=by
 intro a ha
 have hs:g<a.tmps.size:=by rw [ha.size]; exact of_decide_eq_true (by simpa [Nat.blt_eq] using hN)
 have hv:=ha.val g _ hg
 have hy:yielded ops a.tmps j=none:=by
  unfold yielded;rw [hj];simp only [Option.bind_some];rw [Array.getElem?_eq_getElem hs];simp only [Array.getD_eq_getD_getElem?,Array.getElem?_eq_getElem hs,Option.getD_some] at hv;rw [hv]
  rfl
 unfold wpList;rw [if_neg (by simp [Region.wanted,hy])]
 exact h _<|ha.put hd undef
end
def CP (ret:Value→World→Prop) (pan:List PanicEntry→World→Prop):Ending→World→Prop
  | .returned v,w=>ret v w
  | .panicked c,w=>pan c w
  | .outgrown,_=>False
def evs (l:Env):List Operand→Option (List Value)
  | []=>some []
  | x::xs=>match ev l x with
    | some v=>match evs l xs with
      | some vs=>some (v::vs)
      | none=>none
    | none=>none
theorem Qia {l:Env} {ρ:Operand→Value} (hρ:Qma l ρ):∀ {xs:List Operand} {vs:List Value},evs l xs=some vs→xs.map ρ=vs
 | [],vs,h=>by injection h
 | x::xs,vs,h=>by
  unfold evs at h
  cases hx:ev l x with
  | none=>rw [hx] at h; cases h
  | some v =>
   rw [hx] at h
   cases hxs:evs l xs with
   | none=>rw [hxs] at h; cases h
   | some us =>
    rw [hxs] at h;injection h with h;subst h;rw [List.map_cons,hρ _ _ hx,Qia hρ hxs]
section
variable {P:Program} {N:Nat} {ds:List Deferred} {Q:Post} {l r:Env} {w w':World} {ops:Array Oper} {rest:List Oper} {op:Op} {ty:TypeId} {pos:String} {aft:Array Edge} {d:Nat} {v:Value}
theorem cR {ret:Value→World→Prop} {pan:List PanicEntry→World→Prop} (h:ret v w):CP ret pan (.returned v) w:=h
theorem sc {f : FuncId} {args : List Operand} {ats : Array TypeId} {fn : Func} {c : Code} (vs : List Value) (hf : P.funcs[f]? = some fn) (hb : fn.body = some c) (hname : (fn.name == "runtime.NumGoroutine") = false)
  (hvs:evs l args=some vs) (hd:Nat.blt d N=true)
  (hc:Calls P f vs.toArray w (CP (fun v w'=>WL P N ds ops Q rest ((d,v)::l) w') (fun c w'=>Q (.panic c) l w'))) :
  WL P N ds ops Q (⟨some d,.call { callee:=.value (.func f),args:=args.toArray,argTypes:=ats },ty,pos,aft,none⟩::rest) l w:=by
 intro a ha
 refine wpList_plain Z fun K hK=>?_
 unfold Oper.wp execOp
 have h2 : fn.name ≠ "runtime.NumGoroutine" := by simpa using hname
 have hvs':=Qia ha.knows hvs;simp only [resolve,invoke];simp [Deferred.ofValue,Act.eval,callFunc,hf,hb,h2,mark];have e:List.map (fun x=>a.eval x) args=vs:=hvs';rw [show List.map a.eval args=vs from e]
 refine Calls.mono hc fun e w' h=>?_
 cases e with
 | returned v=>exact hK _ _ (h _ (ha.put hd v))
 | panicked c=>exact ⟨l,ha,h⟩
 | outgrown=>exact h.elim
end
def Yu (P:Program) (l:Env) (w:World):ResultVar→Value→Prop
  | .tmp t,v=>lk l t=some v
  | .cell p ty,v=>∃ a,lk l p=some (.pointer (some a))∧(loadVar ty a).run P w=.ok v w
def JI (P:Program) (fn:Func) (R:Ending→World→Prop):Post
  | .normal,l,w=>∃ v,(∀ a,(∀ t v,lk l t=some v→a.getD t undef=v)→(results fn a).run P w=.ok v w)∧R (.returned v) w
  | .ret,l,w=>∃ v,(∀ a,(∀ t v,lk l t=some v→a.getD t undef=v)→(results fn a).run P w=.ok v w)∧R (.returned v) w
  | .panic c,_,w=>R (.panicked c) w
  | _,_,_=>False
def env0 (args:List Value):Env:=args.zipIdx.map fun p=>(p.2,p.1)
theorem lk_env0 (args:List Value):∀ (k t:Nat) (v:Value),lk ((args.zipIdx k).map fun p=>(p.2,p.1)) t=some v→k≤t∧args[t-k]?=some v:=by
 induction args with
 | nil=>intro k t v h; cases h
 | cons x xs ih =>
  intro k t v h;simp only [List.zipIdx_cons,List.map_cons] at h;unfold lk at h
  cases ht:Nat.beq t k with
  | true =>
   rw [ht] at h;have e:t=k:=Nat.eq_of_beq_eq_true ht;subst e;simp only [cond_true,Option.some.injEq] at h;subst h
   simp
  | false =>
   rw [ht] at h;have e:t≠k:=Nat.ne_of_beq_eq_false ht;obtain ⟨h1,h2⟩:=ih (k+1) t v h;refine ⟨by omega,?_⟩;rw [show t-k=(t-(k+1))+1 by omega,List.getElem?_cons_succ];exact h2
theorem Qj {P:Program} {f:FuncId} {fn:Func} {c:Code} {args:List Value} {w:World} {R:Ending→World→Prop} (N:Nat) (hf:P.funcs[f]?=some fn) (hb:fn.body=some c) (hN:fn.ntmps=N) (hn:Nat.ble args.length N=true)
  (h:W P N [] (JI P fn R) c (env0 args) w):Calls P f args.toArray w R:=by
 have hn':args.length≤N:=Nat.le_of_ble_eq_true hn
 refine calls_of_wp hf hb<|Code.wp_mono (fun e a w hq=>?_)<|h _ ⟨by simp; omega,Z,fun t v ht=>?_⟩
 ·obtain ⟨l,hr,hq⟩:=hq
  cases e with
  | normal=>obtain ⟨v,h1,h2⟩:=hq; exact ⟨hr.defers,v,h1 _ hr.val,h2⟩
  | ret=>obtain ⟨v,h1,h2⟩:=hq; exact ⟨hr.defers,v,h1 _ hr.val,h2⟩
  | panic c=>exact ⟨hr.defers,hq⟩
  | _=>exact hq.elim
 ·obtain ⟨_,h2⟩:=lk_env0 args 0 t v ht;rw [Array.getD_eq_getD_getElem?,Array.getElem?_append]
  have hlt:t<args.length:=by
   rcases Nat.lt_or_ge t args.length with h|h
   ·exact h
   ·rw [List.getElem?_eq_none (by omega)] at h2; cases h2
  rw [if_pos (by simpa using hlt)];simp only [Nat.sub_zero] at h2;simp [h2]
section
variable {P:Program} {fn:Func} {R:Ending→World→Prop} {l:Env} {w:World}
def Qmp (a:Array Value):ResultVar→Sem Value
  | .tmp t=>pure (a.getD t undef)
  | .cell p t=>do loadVar t (← asAddr (a.getD p undef))
theorem UQ (a:Array Value):results fn a=(do let vs ← fn.results.mapM (Qmp a); pure (if h:vs.size=1 then vs[0] else .tuple vs)):=rfl
theorem Zi {x:ResultVar} {v:Value} (h:Yu P l w x v) (a:Array Value) (ha:∀ t v,lk l t=some v→a.getD t undef=v) :
  (Qmp a x).run P w=.ok v w:=by
 unfold Qmp
 cases x with
 | tmp t=>simp only [Sem.run_pure]; rw [ha t v h]
 | cell p ty =>
  obtain ⟨ad,h1,h2⟩:=h;simp only [Sem.run_bind];rw [ha p _ h1];simp [asAddr,h2]
theorem r0 (hf:fn.results=#[]) (hR:R (.returned (.tuple #[])) w):JI P fn R .ret l w∧JI P fn R .normal l w:=by
 have h:∃ v,(∀ a:Array Value,(∀ t v,lk l t=some v→a.getD t undef=v)→(results fn a).run P w=.ok v w)∧R (.returned v) w:=⟨_,fun a ha=>by simp [results,hf],hR⟩
 exact ⟨h,h⟩
theorem r1 {x:ResultVar} {v:Value} (hf:fn.results=#[x]) (hx:Yu P l w x v) (hR:R (.returned v) w):JI P fn R .ret l w∧JI P fn R .normal l w:=by
 have h:∃ v,(∀ a:Array Value,(∀ t v,lk l t=some v→a.getD t undef=v)→(results fn a).run P w=.ok v w)∧R (.returned v) w:=⟨v,fun a ha=>by
  have:=Zi hx a ha
  rw [UQ,hf];simp only [List.mapM_toArray,List.mapM_cons,List.mapM_nil,Sem.run_bind,Sem.run_pure,map_eq_pure_bind];simp only [this,Result.andThen_ok]
  rfl,hR⟩
 exact ⟨h,h⟩
theorem r2 {x y:ResultVar} {v u:Value} (hf:fn.results=#[x,y]) (hx:Yu P l w x v) (hy:Yu P l w y u) (hR:R (.returned (.tuple #[v,u])) w):JI P fn R .ret l w∧JI P fn R .normal l w:=by
 have h:∃ v,(∀ a:Array Value,(∀ t v,lk l t=some v→a.getD t undef=v)→(results fn a).run P w=.ok v w)∧R (.returned v) w:=⟨.tuple #[v,u],fun a ha=>by
  have h1:=Zi hx a ha;have h2:=Zi hy a ha;rw [UQ,hf];simp only [List.mapM_toArray,List.mapM_cons,List.mapM_nil,Sem.run_bind,Sem.run_pure,map_eq_pure_bind];simp only [h1,h2,Result.andThen_ok]
  rfl,hR⟩
 exact ⟨h,h⟩
end
section
variable {P:Program} {fn:Func} {R:Ending→World→Prop} {l:Env} {w:World}
theorem rT {t:Nat} {v:Value} (hf:fn.results=#[.tmp t]) (hx:lk l t=some v) (hR:R (.returned v) w):JI P fn R .ret l w∧JI P fn R .normal l w:=r1 hf hx hR
theorem J6 {t t2:Nat} {v v2:Value} (hf:fn.results=#[.tmp t,.tmp t2]) (hx:lk l t=some v) (hy:lk l t2=some v2) (hR:R (.returned (.tuple #[v,v2])) w):JI P fn R .ret l w∧JI P fn R .normal l w:=r2 hf hx hy hR
theorem Qgo {ty:TypeId} {p g:Nat} {bt:TypeId} {cs:Array Value} {d:TypeDesc} (hx:lk l p=some (.pointer (some ⟨g,0,none⟩))) (hB:Blk w g bt cs) (hu:P.underlying ty=some d) (hd:(match d with|.struct _|.array _ _=>true|_=>false)=true) (hi:(P.info? ty).map (·.size)=some cs.size) :
  Yu P l w (.cell p ty) (.agg cs):=⟨_,hx,run_loadVar_row w g bt ty cs (0,0) d hB hu hd hi⟩
theorem rC {ty:TypeId} {p g:Nat} {bt:TypeId} {cs:Array Value} {d:TypeDesc} (hf:fn.results=#[.cell p ty]) (hx:lk l p=some (.pointer (some ⟨g,0,none⟩))) (hB:Blk w g bt cs) (hu:P.underlying ty=some d) (hd:(match d with|.struct _|.array _ _=>true|_=>false)=true) (hi:(P.info? ty).map (·.size)=some cs.size)
  (hR:R (.returned (.agg cs)) w):JI P fn R .ret l w∧JI P fn R .normal l w:=r1 hf (Qgo hx hB hu hd hi) hR
theorem KW {ty:TypeId} {p g t:Nat} {v:Value} {bt:TypeId} {cs:Array Value} {d:TypeDesc} (hf:fn.results=#[.cell p ty,.tmp t]) (hx:lk l p=some (.pointer (some ⟨g,0,none⟩))) (hB:Blk w g bt cs) (hu:P.underlying ty=some d) (hd:(match d with|.struct _|.array _ _=>true|_=>false)=true) (hi:(P.info? ty).map (·.size)=some cs.size) (hy:lk l t=some v)
  (hR:R (.returned (.tuple #[.agg cs,v])) w):JI P fn R .ret l w∧JI P fn R .normal l w:=r2 hf (Qgo hx hB hu hd hi) hy hR
end
theorem Ji {g:Nat} {w0 w w':World} (hb:Below w0.heap.size w0 w) (hc:Chg (fun k=>k=g) w w') (hg:w0.heap.size≤g):Below w0.heap.size w0 w' :=
 ⟨hc.os.trans hb.os,hc.tape.trans hb.tape,hc.output.trans hb.output,Nat.le_trans hb.size hc.size,fun k hk=>(hc.block k (Nat.lt_of_lt_of_le hk hb.size) (by omega)).trans (hb.block k hk)⟩
theorem Ql {w0 w w':World} (hb:Below w0.heap.size w0 w) (hc:Below w.heap.size w w'):Below w0.heap.size w0 w':=Zm hb hc (Nat.le_refl _)
theorem JC {w0 w:World} (hb:Below w0.heap.size w0 w):Below w0.heap.size w0 w.drew:=⟨hb.os,hb.tape,hb.output,hb.size,hb.block⟩
theorem Qs {p q:Prop} (h:p) (f:p→q:=by first|exact of_decide_eq_true|exact of_decide_eq_false|exact fun h=>of_decide_eq_false (notT h)|exact fun h=>of_decide_eq_true (notF h)|exact notT|exact notF|exact id):q:=f h
theorem QN (w:World):∃ w',w'=World.drew w∧Below w.heap.size w w':=⟨_,rfl,JC (Below.refl _ _)⟩
theorem X4 {n:Nat} {w:World}:Below n w w:=Below.refl n w
theorem tvA:True:=trivial
theorem Q3 {P:Program} {f:FuncId} {a:Array Value} {w:World} {v:Value} {R:World→Prop} {ret:Value→World→Prop} {pan:List PanicEntry→World→Prop} (h:Calls P f a w fun e w'=>e=.returned v∧R w') (k:∀ w',R w'→ret v w'):Calls P f a w (CP ret pan):=h.mono (by rintro e w' ⟨rfl,hb⟩; exact k w' hb)
abbrev siB:=@List.setIfInBounds_toArray
abbrev siC:=@List.set_cons_zero
abbrev siD:=@List.set_cons_succ
theorem Z5 {p:Prop} (h:p:=by first|(show ¬_=_; omega)|(intro k_ hk_; simp [Value.ownBlock] at hk_; subst hk_; show ¬_=_; omega)|(intro k_ hk_; have hk2_:k_=_:=hk_; subst hk2_; omega)|assumption|trivial):p:=h
theorem Qb {p:Prop} (h:p:=by omega):p:=h
theorem Qo {p:Prop} (h:p:=by kernel_rfl):p:=h
theorem Q0 {p:Prop} (h:p:=by simp):p:=h
theorem QF {p:Prop} (h:p:=by decide):p:=h
theorem KO {p:Prop} (h:p:=by intro i_ hi_; first|exact .inl hi_|exact .inl (.inl hi_)|(right; subst hi_; omega)|(left; subst hi_; show _≤_; omega)|(left; subst hi_; assumption)):p:=h
end
section
open Go.RowKit
section
variable {P:Program} {l:Env} {ty t t':TypeId} {w:World} {x y:Operand} {k k':IntKind} {m n z:Int}
theorem Qd {v:Value} (hx:ev l x=some v):X P l (.move x) ty w v w:=fun ρ hρ=>by rw [← hρ _ _ hx]; rfl
theorem Qy {v:Value} (hx:ev l x=some v):X P l (.assign x) ty w v w:=fun ρ hρ=>by rw [← hρ _ _ hx]; rfl
theorem JJ {o:BinOp} {a b v:Value} (hx:ev l x=some a) (hy:ev l y=some b) (h:∀ c d,(eqGuard o t c d a b).run P w=.ok () w) (hr:(binOp o t a b).run P w=.ok v w):X P l (.binOp o t x y t') ty w v w:=fun ρ hρ=>by
 unfold execOp;simp only [hρ _ _ hx,hρ _ _ hy,Sem.run_bind,h,Result.andThen_ok,hr,Sem.run_pure]
theorem JT {o:BinOp} (c d:Operand):(eqGuard o t c d (.int k m) (.int k' n)).run P w=.ok () w:=by
 unfold eqGuard
 cases o <;> simp
theorem Yx (hx:ev l x=some (.int k m)) (hy:ev l y=some (.int k n)) (hz:k.wrap (m+n)=z):X P l (.binOp .add t x y t') ty w (.int k z) w :=
 JJ hx hy JT (by simp [binOp,Op.intArith,hz])
theorem V5 (hx:ev l x=some (.int k m)) (hy:ev l y=some (.int k n)) (hz:k.wrap (m-n)=z):X P l (.binOp .sub t x y t') ty w (.int k z) w :=
 JJ hx hy JT (by simp [binOp,Op.intArith,hz])
theorem Qls (hx:ev l x=some (.int k m)) (hy:ev l y=some (.int k n)) (hz:k.wrap (m*n)=z):X P l (.binOp .mul t x y t') ty w (.int k z) w :=
 JJ hx hy JT (by simp [binOp,Op.intArith,hz])
theorem Qn (hx:ev l x=some (.int .i64 m)) (hy:ev l y=some (.int .i64 n)) (hz:-9223372036854775808≤m+n∧m+n≤9223372036854775807):X P l (.binOp .add t x y t') ty w (.int .i64 (m+n)) w :=
 Yx hx hy (IntWalk.i64_in _ hz)
theorem JU (hx:ev l x=some (.int .i64 m)) (hy:ev l y=some (.int .i64 n)) (hz:-9223372036854775808≤m-n∧m-n≤9223372036854775807):X P l (.binOp .sub t x y t') ty w (.int .i64 (m-n)) w :=
 V5 hx hy (IntWalk.i64_in _ hz)
theorem Kl (hx:ev l x=some (.int .i64 m)) (hy:ev l y=some (.int .i64 n)) (hz:-9223372036854775808≤m*n∧m*n≤9223372036854775807):X P l (.binOp .mul t x y t') ty w (.int .i64 (m*n)) w :=
 Qls hx hy (IntWalk.i64_in _ hz)
theorem Qqe (hx:ev l x=some (.int k m)) (hy:ev l y=some (.int k n)) (h0:n≠0) (hz:k.wrap (m.tdiv n)=z):X P l (.binOp .quo t x y t') ty w (.int k z) w :=
 JJ hx hy JT (by simp [binOp,Op.intDiv,h0,hz])
theorem Qlr (hx:ev l x=some (.int k m)) (hy:ev l y=some (.int k n)) (h0:n≠0) (hz:m.tmod n=z):X P l (.binOp .rem t x y t') ty w (.int k z) w :=
 JJ hx hy JT (by simp [binOp,Op.intDiv,h0,hz])
theorem Qqd (hx:ev l x=some (.int .i64 m)) (hy:ev l y=some (.int .i64 n)) (h0:0≤m) (h1:m≤9223372036854775807) (hn:0<n):X P l (.binOp .quo t x y t') ty w (.int .i64 (m / n)) w :=
 Qqe hx hy Qb (by
  rw [Int.tdiv_eq_ediv_of_nonneg h0];have a1:0≤m / n:=Int.ediv_nonneg h0 Qb;have a2:m / n≤m:=Int.ediv_le_self n h0
  exact IntWalk.i64_in _ Qb)
theorem Yc (hx:ev l x=some (.int k m)) (hy:ev l y=some (.int k n)) (h0:0≤m) (hn:0<n):X P l (.binOp .rem t x y t') ty w (.int k (m%n)) w :=
 Qlr hx hy Qb (Int.tmod_eq_emod_of_nonneg h0)
theorem Zn {o:BinOp} (ho:o=.and∨o=.or∨o=.xor∨o=.andNot) (hx:ev l x=some (.int k m)) (hy:ev l y=some (.int k n)) (hz:bits o k m n=z):X P l (.binOp o t x y t') ty w (.int k z) w :=
 JJ hx hy JT (by rcases ho with rfl|rfl|rfl|rfl <;> simp [binOp,intBits_and,intBits_or,intBits_xor,intBits_andNot,hz])
theorem V6 {s:Nat} {q:Int} (hx:ev l x=some (.int k m)) (hy:ev l y=some (.int k' n)) (h0:0≤n) (h1:n≤k.bits) (hs:n.toNat=s) (hq:(2:Int) ^ s=q):X P l (.binOp .shr t x y t') ty w (.int k (m / q)) w :=
 JJ hx hy JT (by simp only [binOp,shift_shr k k' m n h0 h1,hs,hq,Sem.run_pure])
theorem Qoo {s:Nat} {q:Int} (hx:ev l x=some (.int k m)) (hy:ev l y=some (.int k' n)) (h0:0≤n) (h1:n≤k.bits) (hs:n.toNat=s) (hq:(2:Int) ^ s=q) (hz:m / q=z):X P l (.binOp .shr t x y t') ty w (.int k z) w:=by
 subst hz;exact V6 hx hy h0 h1 hs hq
theorem Qal {s:Nat} {q:Int} (hx:ev l x=some (.int k m)) (hy:ev l y=some (.int k' n)) (h0:0≤n) (h1:n≤k.bits) (hs:n.toNat=s) (hq:(2:Int) ^ s=q) (hz:k.wrap (m*q)=z):X P l (.binOp .shl t x y t') ty w (.int k z) w :=
 JJ hx hy JT (by simp only [binOp,shift_shl k k' m n h0 h1,hs,hq,hz,Sem.run_pure])
theorem QJ (hx:ev l x=some (.int k m)) (hy:ev l y=some (.int k n)):X P l (.binOp .lss t x y t') ty w (.bool (decide (m<n))) w :=
 JJ hx hy JT (by simp [binOp,Op.intCmp])
theorem V7 (hx:ev l x=some (.int k m)) (hy:ev l y=some (.int k n)):X P l (.binOp .leq t x y t') ty w (.bool (decide (m≤n))) w :=
 JJ hx hy JT (by simp [binOp,Op.intCmp])
theorem Jg (hx:ev l x=some (.int k m)) (hy:ev l y=some (.int k n)):X P l (.binOp .gtr t x y t') ty w (.bool (decide (n<m))) w :=
 JJ hx hy JT (by simp [binOp,Op.intCmp])
theorem Z1 (hx:ev l x=some (.int k m)) (hy:ev l y=some (.int k n)):X P l (.binOp .geq t x y t') ty w (.bool (decide (n≤m))) w :=
 JJ hx hy JT (by simp [binOp,Op.intCmp])
theorem QL (hx:ev l x=some (.int k m)) (hy:ev l y=some (.int k n)):X P l (.binOp .eql t x y t') ty w (.bool (decide (m=n))) w :=
 JJ hx hy JT (by
  have:(m == n)=decide (m=n):=by rw [Bool.eq_iff_iff]; simp
  simp [binOp,Op.intCmp,this])
theorem QC (hx:ev l x=some (.int k m)) (hy:ev l y=some (.int k n)):X P l (.binOp .neq t x y t') ty w (.bool (decide (m≠n))) w :=
 JJ hx hy JT (by
  have:(m != n)=decide (m≠n):=by rw [Bool.eq_iff_iff]; simp
  simp only [binOp,Op.intCmp,this]
  simp)
theorem Jk {b:Bool} (hx:ev l x=some (.bool b)):X P l (.unOp .not t x) ty w (.bool (!b)) w:=fun ρ hρ=>by
 unfold execOp;simp only [hρ _ _ hx,Op.unary,Sem.run_bind,Sem.run_pure,Result.andThen_ok]
theorem QM {src dst:TypeId} {s:TypeDesc} (hx:ev l x=some (.int k m)) (hs:P.underlying src=some s) (hd:P.underlying dst=some (.int k')) (hz:k'.wrap m=z):X P l (.convert src dst x) ty w (.int k' z) w:=fun ρ hρ=>by
 unfold execOp;simp [hρ _ _ hx,convert,run_underlying hs,run_underlying hd,Conv.intToInt,hz]
theorem Qm {b c:Operand} {v:Value} (hx:ev l x=some (.bool true)) (hb:ev l b=some v):X P l (.pick x b c) ty w v w:=fun ρ hρ=>by
 unfold execOp;simp [hρ _ _ hx,hρ _ _ hb,asBool]
theorem Qq {b c:Operand} {v:Value} (hx:ev l x=some (.bool false)) (hc:ev l c=some v):X P l (.pick x b c) ty w v w:=fun ρ hρ=>by
 unfold execOp;simp [hρ _ _ hx,hρ _ _ hc,asBool]
theorem Qu {vs:Array Value} {i:Nat} {v:Value} (hx:ev l x=some (.tuple vs)) (hi:vs.toList[i]?=some v):X P l (.extract x i) ty w v w:=fun ρ hρ=>by
 rw [Array.getElem?_toList] at hi;unfold execOp;simp [hρ _ _ hx,Instr.extract,hi]
theorem Qc {a:Addr} (hx:ev l x=some (.pointer (some a))):X P l (.nilCheck x) ty w (.pointer (some a)) w:=fun ρ hρ=>by
 unfold execOp;simp [hρ _ _ hx]
theorem Qfz {o:BinOp} {a b c:Bool} (ho:o=.eql∧c=(a == b)∨o=.neq∧c=(a != b)) (hu:P.underlying t=some .bool) (hx:ev l x=some (.bool a)) (hy:ev l y=some (.bool b)):X P l (.binOp o t x y t') ty w (.bool c) w :=
 JJ hx hy (fun c d=>by unfold eqGuard; rcases ho with ⟨rfl,_⟩|⟨rfl,_⟩ <;> simp) (by
  rcases ho with ⟨rfl,rfl⟩|⟨rfl,rfl⟩
  ·simp [binOp,Op.equal,Op.maxDepth,run_equalIn_bool' w 9999 t a b hu]
  ·simp [binOp,Op.equal,Op.maxDepth,run_equalIn_bool' w 9999 t a b hu,bne])
end
theorem U8 {m:Int} (h:-9223372036854775808≤m∧m≤9223372036854775807):IntKind.i64.wrap m=m:=IntWalk.i64_in _ h
theorem w8 (m:Int):IntKind.u8.wrap m=m%256:=by rw [IntKind.wrap_u8]
theorem w32 (m:Int):IntKind.u32.wrap m=m%4294967296:=by rw [IntKind.wrap_u32]
theorem wu64 (m:Int):IntKind.u64.wrap m=m%18446744073709551616:=by rw [IntKind.wrap_u64]
def Qv (s:List UInt8):Value:=.string ⟨s.toArray⟩
section
variable {P:Program} {l:Env} {ty t t':TypeId} {w:World} {x y:Operand} {k k':IntKind} {m n z:Int} {s a b:List UInt8}
theorem QP {ats:Array TypeId} (hx:ev l x=some (Qv s)) (ht:ats=#[t]) (hu:P.underlying t=some .string):X P l (.call { callee:=.builtin .len,args:=#[x],argTypes:=ats }) ty w (.int .i64 s.length) w:=fun ρ hρ=>by
 subst ht;unfold execOp;simp [resolve,invoke,builtin,Builtin.len_,hρ _ _ hx,run_underlying hu,Qv]
 rfl
theorem QT {ats:Array TypeId} {ad:Option Addr} {q c:Nat} {e:TypeId} (hx:ev l x=some (.slice ad q c)) (ht:ats=#[t]) (hu:P.underlying t=some (.slice e)):X P l (.call { callee:=.builtin .len,args:=#[x],argTypes:=ats }) ty w (.int .i64 q) w:=fun ρ hρ=>by
 subst ht;unfold execOp;simp [resolve,invoke,builtin,Builtin.len_,hρ _ _ hx,run_underlying hu,goInt]
theorem Ys {q:Nat} (hx:ev l x=some (Qv s)) (hy:ev l y=some (.int k m)) (hu:P.underlying t=some .string) (hm:m=(q:Int)) (hq:q<s.length):X P l (.index t x y) ty w (bv (s.getD q 0)) w:=fun ρ hρ=>by
 subst hm;unfold execOp;simp only [hρ _ _ hx,hρ _ _ hy,Qv,run_index_string (P:=P) w t ⟨s.toArray⟩ k q hu,Sem.run_bind]
 have h1:(0:Int)≤(q:Int)∧(q:Int)<((⟨s.toArray⟩:ByteArray).size:Int):=⟨by omega,by show (q:Int)<(s.length:Int); omega⟩
 rw [dif_pos h1];simp only [Result.andThen_ok,Sem.run_pure,Int.toNat_natCast]
 have e:(⟨s.toArray⟩:ByteArray)[q]'(by show q<s.length; exact hq)=s.getD q 0:=by
  rw [List.getD_eq_getElem?_getD,List.getElem?_eq_getElem hq]; rfl
 rw [e]; rfl
theorem YE (s:List UInt8) (i j:Nat):Value.string ((⟨s.toArray⟩:ByteArray).extract i j)=Qv ((s.take j).drop i):=by
 unfold Qv
 congr 1
 apply ByteArray.ext
 rw [ByteArray.data_extract]
 apply Array.ext'
 rw [Array.toList_extract];simp [List.extract,List.drop_take]
theorem KQ {j:Nat} (hx:ev l x=some (Qv s)) (hy:ev l y=some (.int k m)) (hu:P.underlying t=some .string) (hm:m=(j:Int)) (hj:j≤s.length):X P l (.slice t x none (some y) none) ty w (Qv (s.take j)) w:=fun ρ hρ=>by
 subst hm;unfold execOp
 have:=run_slice_string_h (P:=P) w t ⟨s.toArray⟩ hu k j Qb (by show (j:Int)≤(s.length:Int); omega)
 simp [hρ _ _ hx,hρ _ _ hy,Instr.sliceAt,run_underlying hu];simp only [Qv] at *;simp [this,YE,Qv]
theorem Ka {i:Nat} (hx:ev l x=some (Qv s)) (hy:ev l y=some (.int k m)) (hu:P.underlying t=some .string) (hm:m=(i:Int)) (hi:i≤s.length):X P l (.slice t x (some y) none none) ty w (Qv (s.drop i)) w:=fun ρ hρ=>by
 subst hm;unfold execOp
 have:=run_slice_string_l (P:=P) w t ⟨s.toArray⟩ hu k i Qb (by show (i:Int)≤(s.length:Int); omega)
 simp [hρ _ _ hx,hρ _ _ hy,Instr.sliceAt,run_underlying hu];simp only [Qv] at *;have e:(⟨s.toArray⟩:ByteArray).size=s.length:=rfl;simp [this,YE,Qv,e]
theorem Qiq {x1 x2:Operand} {i j:Nat} (hx:ev l x=some (Qv s)) (h1:ev l x1=some (.int k m)) (h2:ev l x2=some (.int k' n)) (hu:P.underlying t=some .string) (hm:m=(i:Int)) (hn:n=(j:Int)) (hi:i≤j) (hj:j≤s.length):X P l (.slice t x (some x1) (some x2) none) ty w (Qv ((s.take j).drop i)) w:=fun ρ hρ=>by
 subst hm hn;unfold execOp
 have:=run_slice_string (P:=P) w t ⟨s.toArray⟩ k k' i j hu Qb Qb (by show (j:Int)≤(s.length:Int); omega)
 simp [hρ _ _ hx,hρ _ _ h1,hρ _ _ h2,Instr.sliceAt,run_underlying hu];simp only [Qv] at *;simp [this,YE,Qv]
theorem UD {o:BinOp} {a b:ByteArray} (c d:Operand):(eqGuard o t c d (.string a) (.string b)).run P w=.ok () w:=by
 unfold eqGuard
 cases o <;> simp
theorem JV (hx:ev l x=some (Qv a)) (hy:ev l y=some (Qv b)) (h:a.length+b.length≤9223372036854775807):X P l (.binOp .add t x y t') ty w (Qv (a++b)) w :=
 JJ hx hy UD (by
  have e:¬(((⟨a.toArray⟩:ByteArray).size+(⟨b.toArray⟩:ByteArray).size:Nat):Int) > IntKind.i64.max:=by
   show ¬((a.length+b.length:Nat):Int) > IntKind.i64.max
   simp [IntKind.max,IntKind.bits,IntKind.signed]
   omega
  have e2:(⟨a.toArray⟩:ByteArray)++⟨b.toArray⟩=⟨(a++b).toArray⟩:=by apply ByteArray.ext; simp
  simp only [binOp,Qv,Op.stringOp];rw [if_neg e,e2]
  rfl)
theorem YF (a:List UInt8):(⟨a.toArray⟩:ByteArray).toList=a:=by
 rw [ByteArray.toList_eq]
theorem KR (hx:ev l x=some (Qv a)) (hy:ev l y=some (Qv b)):X P l (.binOp .eql t x y t') ty w (.bool (decide (a=b))) w :=
 JJ hx hy UD (by
  have:(a == b)=decide (a=b):=by rw [Bool.eq_iff_iff]; simp
  simp only [binOp,Qv,Op.stringOp,YF,this,Sem.run_pure])
theorem Y7 (hx:ev l x=some (Qv a)) (hy:ev l y=some (Qv b)):X P l (.binOp .neq t x y t') ty w (.bool (decide (a≠b))) w :=
 JJ hx hy UD (by
  have:(!(a == b))=decide (a≠b):=by rw [Bool.eq_iff_iff]; simp
  simp only [binOp,Qv,Op.stringOp,YF,this,Sem.run_pure])
theorem Qwj (hx:ev l x=some (Qv a)) (hy:ev l y=some (Qv b)):X P l (.binOp .gtr t x y t') ty w (.bool !(Op.bytesLess a b || a == b)) w :=
 JJ hx hy UD (by simp only [binOp,Qv,Op.stringOp,YF,Sem.run_pure])
theorem X.geS (hx:ev l x=some (Qv a)) (hy:ev l y=some (Qv b)):X P l (.binOp .geq t x y t') ty w (.bool !(Op.bytesLess a b)) w :=
 JJ hx hy UD (by simp only [binOp,Qv,Op.stringOp,YF,Sem.run_pure])
end
end
section
open Go.RowKit
theorem Blk.bel {w w':World} {g:Nat} {t:TypeId} {cs:Array Value} (h:Blk w g t cs) (hb:Below w.heap.size w w'):Blk w' g t cs:=h.belowAll hb
theorem Row.bel {w w':World} {e:TypeId} {size:Nat} {v:Value} {n:Nat} {xs:List Value} (h:Row w e size v n xs) (hb:Below w.heap.size w w'):Row w' e size v n xs:=h.belowAll hb
theorem Reads.bel {w w':World} {size:Nat} {v:Value} {n:Nat} {xs:List Value} (h:Reads w size v n xs) (hb:Below w.heap.size w w'):Reads w' size v n xs:=h.belowAll hb
theorem Blk.range {w:World} {g:Nat} {t:TypeId} {cs:Array Value} (h:Blk w g t cs):w.rangeAt g 0 cs.toList:=fun j v hv=>by
 rw [Nat.zero_add,h.cell]
 simpa using hv
theorem Reads.range {w:World} {size:Nat} {g o n c:Nat} {xs:List Value} (h:Reads w size (.slice (some ⟨g,o,none⟩) n c) n xs) (j:Nat) (hj:j<n):w.rangeAt g (o+j*size) ((xs.drop (j*size)).take size):=by
 obtain ⟨hl,a,cap,hv,_,_,hr⟩:=h;injection hv with e1 _ _;obtain ⟨g',o',ha,_,hc⟩:=hr Qb;rw [ha] at e1;injection e1 with e1;injection e1 with e2 e3;subst e2 e3;intro i v hv;rw [List.getElem?_take] at hv
 split at hv
 ·rw [List.getElem?_drop] at hv;rw [Nat.add_assoc];exact hc _ _ hv
 ·cases hv
theorem Reads.cellAt {w:World} {size:Nat} {g o n c:Nat} {xs:List Value} (h:Reads w size (.slice (some ⟨g,o,none⟩) n c) n xs) (hn:0<n) {j:Nat} {v:Value} (hv:xs[j]?=some v):w.cell? ⟨g,o+j,none⟩=some v:=by
 obtain ⟨hl,a,cap,hv',_,_,hr⟩:=h;injection hv' with e1 _ _;obtain ⟨g',o',ha,_,hc⟩:=hr hn;rw [ha] at e1;injection e1 with e1;injection e1 with e2 e3;subst e2 e3;exact hc _ _ hv
theorem Reads.shape {w:World} {size n:Nat} {v:Value} {xs:List Value} (h:Reads w size v n xs):∃ a c,v=.slice a n c∧n≤c∧c≤9223372036854775807:=by
 obtain ⟨_,a,cap,hv,h1,h2,_⟩:=h;exact ⟨a,cap,hv,h1,h2⟩
theorem Reads.some_ {w:World} {size n:Nat} {v:Value} {xs:List Value} (h:Reads w size v n xs) (hn:0<n):∃ g o c,v=.slice (some ⟨g,o,none⟩) n c∧g<w.heap.size:=by
 obtain ⟨_,a,cap,hv,_,_,hr⟩:=h;obtain ⟨g,o,ha,hg,_⟩:=hr hn;subst ha;exact ⟨g,o,cap,hv,hg⟩
section
variable {P:Program} {N:Nat} {ds:List Deferred} {Q:Post} {l:Env} {w w':World} {ops:Array Oper} {rest:List Oper} {ty t t':TypeId} {pos:String} {aft:Array Edge} {d:Nat} {v u:Value} {x y:Operand} {k:IntKind} {m:Int} {g o n c:Nat}
theorem Qk {off i:Nat} (hr:∀ g o,(Instr.fieldAt t (.pointer (some ⟨g,o,none⟩)) i).run P w=.ok (.pointer (some ⟨g,o+off,none⟩)) w) (hx:ev l x=some (.pointer (some ⟨g,o,none⟩))) :
  X P l (.fieldAddr t x i) ty w (.pointer (some ⟨g,o+off,none⟩)) w:=fun ρ hρ=>by
 unfold execOp;simp only [hρ _ _ hx,Sem.run_bind,hr,Result.andThen_ok,Sem.run_pure]
theorem QA {e:TypeId} {size j:Nat} (hx:ev l x=some (.slice (some ⟨g,o,none⟩) n c)) (hy:ev l y=some (.int k m)) (hu:P.underlying t=some (.slice e)) (hi:(P.info? e).map (·.size)=some size) (hm:m=(j:Int)) (hj:j<n) :
  X P l (.indexAddr t x y) ty w (.pointer (some ⟨g,o+j*size,none⟩)) w:=fun ρ hρ=>by
 subst hm;unfold execOp;obtain ⟨q,hq,hs⟩:=Option.map_eq_some_iff.1 hi;simp [hρ _ _ hx,hρ _ _ hy,Instr.indexAt,run_underlying hu,asIntOf,sizeOf,typeInfo,hq,hs,Addr.add_mid];intro h; omega
theorem Ki {e:TypeId} {size j len:Nat} (hx:ev l x=some (.pointer (some ⟨g,o,none⟩))) (hy:ev l y=some (.int k m)) (hu:P.underlying t=some (.array len e)) (hi:(P.info? e).map (·.size)=some size) (hm:m=(j:Int)) (hj:j<len) :
  X P l (.indexAddr t x y) ty w (.pointer (some ⟨g,o+j*size,none⟩)) w:=fun ρ hρ=>by
 subst hm;unfold execOp;obtain ⟨q,hq,hs⟩:=Option.map_eq_some_iff.1 hi;simp [hρ _ _ hx,hρ _ _ hy,Instr.indexAt,run_underlying hu,asIntOf,Instr.sureAddr,sizeOf,typeInfo,hq,hs,Addr.add_mid];intro h; omega
theorem JS {de:TypeDesc} (hx:ev l x=some (.pointer (some ⟨g,o,none⟩))) (hu:P.underlying t=some de) (hd:de.isRow=false) (hc:w.cell? ⟨g,o,none⟩=some v):X P l (.load t x) ty w v w:=fun ρ hρ=>by
 unfold execOp
 have:(loadVar t ⟨g,o,none⟩).run P w=.ok v w:=by
  unfold loadVar isAgg
  cases de <;> simp [TypeDesc.isRow] at hd <;> simp [run_underlying hu,run_load,hc]
 simp [hρ _ _ hx,Instr.loadAt,Instr.sureAddr,this]
theorem Jw {de:TypeDesc} {cs:List Value} (hx:ev l x=some (.pointer (some ⟨g,o,none⟩))) (hu:P.underlying t=some de) (hd:de.isRow=true) (hi:(P.info? t).map (·.size)=some cs.length) (hc:w.rangeAt g o cs):X P l (.load t x) ty w (.agg cs.toArray) w:=fun ρ hρ=>by
 unfold execOp;simp [hρ _ _ hx,Instr.loadAt,Instr.sureAddr,run_loadVar_mid (P:=P) w g o t cs de hc hu hd hi]
theorem Z0 {de:TypeDesc} {bt:TypeId} {cs:Array Value} (hx:ev l x=some (.pointer (some ⟨g,o,none⟩))) (hB:Blk w g bt cs) (hu:P.underlying t=some de) (hd:de.isRow=false) (hc:cs[o]?=some v):X P l (.load t x) ty w v w :=
 JS hx hu hd (by rw [hB.cell]; exact hc)
theorem QE {de:TypeDesc} {bt:TypeId} {cs:Array Value} (hx:ev l x=some (.pointer (some ⟨g,0,none⟩))) (hB:Blk w g bt cs) (hu:P.underlying t=some de) (hd:de.isRow=true) (hi:(P.info? t).map (·.size)=some cs.size):X P l (.load t x) ty w (.agg cs) w:=by
 have:=Jw (ty:=ty) (cs:=cs.toList) hx hu hd (by simpa using hi) hB.range
 simpa using this
theorem Qi {de:TypeDesc} {bt:TypeId} {cs:Array Value} (hx:ev l x=some (.pointer (some ⟨g,o,none⟩))) (hB:Blk w g bt cs) (hu:P.underlying t=some de) (hd:de.isRow=false) (hc:cs.toList[o]?=some v):X P l (.load t x) ty w v w :=
 Z0 hx hB hu hd (by rw [← Array.getElem?_toList]; exact hc)
theorem Qmo {a:Addr} (ht:(P.info? t).map (·.size)=some 1) (h1:v.oneCell'=true) (hc:(w.cell? a).isSome=true) (hf:w.frozen? a=false):(storeVar t a v).run P w=.ok () (w.setCell a v):=by
 obtain ⟨q,hq,hs⟩:=Option.map_eq_some_iff.1 ht;obtain ⟨u,hu⟩:=Option.isSome_iff_exists.1 hc
 have hcs:v.cells=#[v]:=by cases v <;> simp [Value.oneCell'] at h1 <;> rfl
 have ha:a.add 0=a:=by simp [Addr.add]
 have:(store a v).run P w=.ok () (w.setCell a v):=by rw [run_store P w a v .plain h1]; simp [hu,hf]
 have hz:(sizeOf t).run P w=.ok 1 w:=by simp [sizeOf,typeInfo,hq,hs]
 unfold storeVar;simp only [hcs,Sem.run_bind,hz,Result.andThen_ok];simp [storeCells,ha,this]
theorem Xs.st (hx:ev l x=some (.pointer (some ⟨g,o,none⟩))) (hy:ev l y=some v) (ht:(P.info? t).map (·.size)=some 1) (h1:v.oneCell'=true) (hc:(w.cell? ⟨g,o,none⟩).isSome=true) (hf:w.frozen? ⟨g,o,none⟩=false) :
  Xs P l (.store t x y) ty w (w.setCell ⟨g,o,none⟩ v):=fun ρ hρ=>by
 unfold execOp;simp [hρ _ _ hx,hρ _ _ hy,Instr.storeAt,Instr.sureAddr,Qmo ht h1 hc hf]
theorem KL {bt:TypeId} {cs:Array Value} (hx:ev l x=some (.pointer (some ⟨g,o,none⟩))) (hy:ev l y=some v) (hB:Blk w g bt cs) (ht:(P.info? t).map (·.size)=some 1) (h1:v.oneCell'=true) (ho:o<cs.size)
  (h:∀ w',Blk w' g bt (cs.setIfInBounds o v)→Chg (fun k=>k=g) w w'→WL P N ds ops Q rest l w'):WL P N ds ops Q (⟨none,.store t x y,ty,pos,aft,none⟩::rest) l w :=
 ss (Xs.st hx hy ht h1 (by rw [hB.cell,Array.getElem?_eq_getElem ho]; rfl) (hB.frozen o)) (h _ (hB.set_ o v) ((Chg.refl (fun k=>k=g) w).setCell (p:=⟨g,o,none⟩) (.inl rfl) v))
theorem QY {bt:TypeId} {old cells:Array Value} (hx:ev l x=some (.pointer (some ⟨g,0,none⟩))) (hy:ev l y=some (.agg cells)) (hB:Blk w g bt old) (hi:(P.info? t).map (·.size)=some cells.size) (hs:old.size=cells.size) (h1:cells.toList.all (·.oneCell')=true)
  (h:∀ w',Blk w' g bt cells→Chg (fun k=>k=g) w w'→WL P N ds ops Q rest l w'):WL P N ds ops Q (⟨none,.store t x y,ty,pos,aft,none⟩::rest) l w :=
 ss (w':=w.setRow g cells) (fun ρ hρ=>by
  unfold execOp
  simp only [hρ _ _ hx,hρ _ _ hy,Instr.storeAt,Instr.sureAddr,Sem.run_bind,Sem.run_pure,Result.andThen_ok,
   run_storeVar_row w g bt t old cells hB hi hs (by rw [← Array.all_toList]; exact h1)])
  (h _ (setRow_heap _ _ _ _ _ _ hB) ((Chg.refl (fun k=>k=g) w).setRow (.inl rfl) _))
theorem sal {cs:Array Value} {q:Value} {sz by_:Nat} (hi:(P.info? t).map (fun i=>(i.zero,i.size,i.bytes))=some (some q,sz,by_)) (hq:q.cells=cs) (hd:Nat.blt d N=true)
  (h:∀ g w',Blk w' g t cs→w.heap.size≤g→Below w.heap.size w w'→g<w'.heap.size→WL P N ds ops Q rest ((d,.pointer (some ⟨g,0,none⟩))::l) w'):WL P N ds ops Q (⟨some d,.alloc t,ty,pos,aft,none⟩::rest) l w:=by
 refine st (w':=w.alloc (.cells cs t)) (fun ρ _=>?_) hd<|h _ _ (Blk.new w t cs) (Nat.le_refl _) ((Below.refl _ _).alloc (Nat.le_refl _) _) Q0
 obtain ⟨i,h1,h2⟩:=Option.map_eq_some_iff.1 hi;injection h2 with h2 h3;unfold execOp;simp [Instr.alloc,zeroValue,typeInfo,h1,h2,newVar,newRow,hq]
theorem Jm {cs:Array Value} {sz by_:Nat} (hi:(P.info? t).map (fun i=>(i.zero,i.size,i.bytes))=some (some (.agg cs),sz,by_)) (hd:Nat.blt d N=true)
  (h:∀ g w',Blk w' g t cs→w.heap.size≤g→Below w.heap.size w w'→g<w'.heap.size→WL P N ds ops Q rest ((d,.pointer (some ⟨g,0,none⟩))::l) w'):WL P N ds ops Q (⟨some d,.alloc t,ty,pos,aft,none⟩::rest) l w:=sal hi rfl hd h
theorem sal1 {q:Value} {sz by_:Nat} (hi:(P.info? t).map (fun i=>(i.zero,i.size,i.bytes))=some (some q,sz,by_)) (hq:q.cells=#[q]) (hd:Nat.blt d N=true)
  (h:∀ g w',Blk w' g t #[q]→w.heap.size≤g→Below w.heap.size w w'→g<w'.heap.size→WL P N ds ops Q rest ((d,.pointer (some ⟨g,0,none⟩))::l) w'):WL P N ds ops Q (⟨some d,.alloc t,ty,pos,aft,none⟩::rest) l w:=sal hi hq hd h
theorem J1 {cs:Array Value} (hx:ev l x=some (.agg cs)) (hd:Nat.blt d N=true)
  (h:∀ g w',Blk w' g t cs→w.heap.size≤g→Below w.heap.size w w'→g<w'.heap.size→WL P N ds ops Q rest ((d,.pointer (some ⟨g,0,none⟩))::l) w'):WL P N ds ops Q (⟨some d,.box t x,ty,pos,aft,none⟩::rest) l w:=by
 refine st (w':=w.alloc (.cells cs t)) (fun ρ hρ=>?_) hd<|h _ _ (Blk.new w t cs) (Nat.le_refl _) ((Below.refl _ _).alloc (Nat.le_refl _) _) Q0
 unfold execOp;simp [hρ _ _ hx,Instr.box,newVar,newRow,Value.cells]
theorem sbox {cs:Array Value} (hx:ev l x=some v) (hq:v.cells=cs) (hd:Nat.blt d N=true)
  (h:∀ g w',Blk w' g t cs→w.heap.size≤g→Below w.heap.size w w'→g<w'.heap.size→WL P N ds ops Q rest ((d,.pointer (some ⟨g,0,none⟩))::l) w'):WL P N ds ops Q (⟨some d,.box t x,ty,pos,aft,none⟩::rest) l w:=by
 refine st (w':=w.alloc (.cells cs t)) (fun ρ hρ=>?_) hd<|h _ _ (Blk.new w t cs) (Nat.le_refl _) ((Below.refl _ _).alloc (Nat.le_refl _) _) Q0
 unfold execOp;simp [hρ _ _ hx,Instr.box,newVar,newRow,hq]
def evp (l:Env):List (Nat×Operand)→Option (List (Nat×Value))
  | []=>some []
  | (i,x)::xs=>match ev l x with
    | some v=>match evp l xs with
      | some vs=>some ((i,v)::vs)
      | none=>none
    | none=>none
theorem Qbm {ρ:Operand→Value} (hρ:Qma l ρ):∀ {xs:List (Nat×Operand)} {vs:List (Nat×Value)},evp l xs=some vs→xs.map (fun p=>(p.1,ρ p.2))=vs
 | [],vs,h=>by injection h
 | (i,x)::xs,vs,h=>by
  unfold evp at h
  cases hx:ev l x with
  | none=>rw [hx] at h; cases h
  | some v =>
   rw [hx] at h
   cases hxs:evp l xs with
   | none=>rw [hxs] at h; cases h
   | some us =>
    rw [hxs] at h;injection h with h;subst h;rw [List.map_cons,Qbm hρ hxs,hρ _ _ hx]
theorem Ja {ps:List (Nat×Operand)} {vs:List (Nat×Value)} (hp:evp l ps=some vs) (hr:(Instr.build t vs.toArray).run P w=.ok v w):X P l (.build t ps.toArray) ty w v w:=fun ρ hρ=>by
 unfold execOp
 have:=Qbm hρ hp
 simp only [List.map_toArray,Sem.run_bind];rw [this,hr]
 rfl
theorem sbs {len e:Nat} {ps:List (Nat×Operand)} {vs:List (Nat×Value)} {cs:Array Value} (size:Nat) (hp:evp l ps=some vs) (hr:(Instr.buildSlice t len vs.toArray).run P w=.ok (.slice (some ⟨w.heap.size,0,none⟩) len len) (w.alloc (.cells cs e))) (hn:len≤maxLen) (hc:cs.size=len*size) (hd:Nat.blt d N=true)
  (h:∀ g w',Row w' e size (.slice (some ⟨g,0,none⟩) len len) len cs.toList→w.heap.size≤g→Below w.heap.size w w'→WL P N ds ops Q rest ((d,.slice (some ⟨g,0,none⟩) len len)::l) w'):WL P N ds ops Q (⟨some d,.buildSlice t len ps.toArray,ty,pos,aft,none⟩::rest) l w:=by
 refine st (w':=w.alloc (.cells cs e)) (fun ρ hρ=>?_) hd<|h _ _ (Row.new w e size len cs hn hc) (Nat.le_refl _)<|(Below.refl _ _).alloc (Nat.le_refl _) _
 unfold execOp
 have:=Qbm hρ hp
 simp only [List.map_toArray,Sem.run_bind];rw [this,hr]
 rfl
theorem Qau {e:TypeId} {i:TypeInfo} {z:Value} (w:World) (hu:P.underlying t=some (.slice e)) (hi:P.info? e=some i) (hz:i.zero=some z) (hs:v.cells.size=i.size) (hzs:z.cells.size=i.size) (h0:0<i.size) (hle:i.size≤1000) :
  (Instr.buildSlice t 1 #[(0,v)]).run P w=.ok (.slice (some ⟨w.heap.size,0,none⟩) 1 1) (w.alloc (.cells v.cells e)):=by
 have hfill:∀ cells:Array Value,cells.size=i.size→Instr.fill (fun i_1=>some (i_1*i.size,i.size)) cells [(0,v)]=some v.cells:=by
  intro cells hc;unfold Instr.fill;simp only [Nat.zero_mul,Nat.zero_add];rw [if_neg (by simp [hs,hc])];unfold Instr.fill
  congr 1
  apply Array.ext_getElem?
  intro j
  have key:∀ (vs:List Value) (k:Nat) (cs:Array Value),k+vs.length≤cs.size→((vs.zipIdx k).foldl (fun cs x=>cs.setIfInBounds x.2 x.1) cs)[j]?=if k≤j∧j<k+vs.length then vs[j-k]? else cs[j]?:=by
   intro vs
   induction vs with
   | nil=>intro k cs _; simp; omega
   | cons u us ih =>
    intro k cs hk;simp only [List.zipIdx_cons,List.foldl_cons];rw [ih (k+1) _ (by simp at hk ⊢; omega)]
    by_cases h1:k+1≤j∧j<k+1+us.length
    ·rw [if_pos h1,if_pos (by simp; omega),show j-k=(j-(k+1))+1 by omega,List.getElem?_cons_succ]
    ·rw [if_neg h1]
     by_cases h2:j=k
     ·subst h2;rw [if_pos Q0];rw [Array.getElem?_setIfInBounds_self];simp at hk;rw [if_pos Qb]
      simp
     ·rw [if_neg (by simp; omega),Array.getElem?_setIfInBounds_ne Qb]
  have:=key v.cells.toList 0 cells (by simp; omega)
  simp only [Nat.zero_le,true_and,Nat.zero_add,Nat.sub_zero] at this;rw [← Array.foldl_toList,Array.toList_zipIdx];rw [this]
  by_cases hj:j<v.cells.size
  ·rw [if_pos (by simpa using hj)]; simp
  ·rw [if_neg (by simpa using hj),Array.getElem?_eq_none Qb,Array.getElem?_eq_none Qb]
 have h1:¬(1*i.size > 2 ^ 24):=by omega
 have h2:¬(1*i.size=0):=by omega
 unfold Instr.buildSlice;simp only [Sem.run_bind,run_underlying hu,Result.andThen_ok,sizeOf,typeInfo,run_program,hi,Sem.run_pure,if_neg h1,if_neg h2,zeroValue,hz];rw [hfill _ Q0];simp [newRow]
theorem Qbk {t:TypeId} {z:Value} {size bytes:Nat} (h:(P.info? t).map (fun i=>(i.zero,i.size,i.bytes))=some (some z,size,bytes)):∃ i,P.info? t=some i∧i.zero=some z∧i.size=size∧i.bytes=bytes:=by
 obtain ⟨i,hi,h2⟩:=Option.map_eq_some_iff.1 h;simp only [Prod.mk.injEq] at h2;exact ⟨i,hi,h2.1,h2.2.1,h2.2.2⟩
theorem Zy {e:TypeId} {z:Value} {size bytes:Nat} (hx:ev l x=some v) (hu:P.underlying t=some (.slice e)) (hinfo:(P.info? e).map (fun i=>(i.zero,i.size,i.bytes))=some (some z,size,bytes)) (hs:v.cells.size=size) (hzs:z.cells.size=size) (h0:0<size) (hle:size≤1000) (hd:Nat.blt d N=true)
  (h:∀ g w',Row w' e size (.slice (some ⟨g,0,none⟩) 1 1) 1 v.cells.toList→w.heap.size≤g→Below w.heap.size w w'→WL P N ds ops Q rest ((d,.slice (some ⟨g,0,none⟩) 1 1)::l) w'):WL P N ds ops Q (⟨some d,.buildSlice t 1 #[(0,x)],ty,pos,aft,none⟩::rest) l w:=by
 obtain ⟨i,hi,hz,his,_⟩:=Qbk hinfo;subst his;exact sbs (ps:=[(0,x)]) (vs:=[(0,v)]) i.size (by unfold evp; rw [hx]; rfl) (Qau w hu hi hz hs hzs h0 hle) (by simp [maxLen]) Qb hd h
theorem Z4 {e:TypeId} {z:Value} {size bytes:Nat} {xs news:List Value} {q:Nat} {tx:TypeId} (hx:ev l x=some v) (hy:ev l y=some u) (ht:P.underlying t=some (.slice e)) (hinfo:(P.info? e).map (fun i=>(i.zero,i.size,i.bytes))=some (some z,size,bytes)) (hzs:z.cells.size=size) (hsz:0<size) (hown:Row w e size v n xs) (hsrc:Src P size tx u q news w)
  (h63:n+q≤maxLen) (hbytes:(n+q)*bytes≤140737488355328) (hd:Nat.blt d N=true)
  (h:∀ v' w',Row w' e size v' (n+q) (xs++news)→Chg (fun k=>v.ownBlock=some k) w w'→(v'.ownBlock=v.ownBlock∨v'.ownBlock=some w.heap.size)→WL P N ds ops Q rest ((d,v')::l) w') :
  WL P N ds ops Q (⟨some d,.call { callee:=.builtin .append,args:=#[x,y],argTypes:=#[t,tx] },ty,pos,aft,none⟩::rest) l w:=by
 obtain ⟨i,hi,hz,hsize,hby⟩:=Qbk hinfo;obtain ⟨v',w',hr,h2,h3,h4⟩:=Xn (P:=P) w t tx ty e i z size bytes ht hi hz hsize hby hzs hsz v n xs hown u q news hsrc h63 hbytes
 refine st (fun ρ hρ=>?_) hd<|h v' w' h2 h3 h4
 unfold execOp;simp only [resolve,invoke,builtin,Sem.run_bind,Sem.run_pure,Result.andThen_ok,List.map_toArray,List.map_cons,List.map_nil,hρ _ _ hx,hρ _ _ hy,hr]
theorem Reads.src {size:Nat} {tx e':TypeId} {q:Nat} {xs:List Value} (h:Reads w size u q xs) (hk:P.underlying tx=some (.slice e')) (h1:∀ u∈xs,u.oneCell'=true):Src P size tx u q xs w:=by
 obtain ⟨hl,a,cap,rfl,hc1,hc2,hr⟩:=h
 rcases Nat.eq_zero_or_pos q with h0|h0
 ·subst h0;obtain rfl:xs=[]:=List.eq_nil_of_length_eq_zero (by simpa using hl)
  cases a with
  | none=>exact Src.ofNil w hk cap
  | some a=>exact Src.ofSlice w hk a 0 cap [] Q0 (fun j u hu=>by simp at hu) h1
 ·obtain ⟨g,o,rfl,_,hc⟩:=hr h0;exact Src.ofSlice w hk ⟨g,o,none⟩ q cap xs hl (fun j u hu=>by rw [Addr.add_mid]; exact hc j u hu) h1
theorem Zs {s:List UInt8} {src dst e:TypeId} {q:Nat} (hx:ev l x=some v) (hs:P.underlying src=some (.slice e)) (he:P.underlying e=some (.int .u8)) (hd:P.underlying dst=some .string) (hR:Reads w 1 v q (s.map bv)):X P l (.convert src dst x) ty w (Qv s) w:=fun ρ hρ=>by
 have hr:(convert src dst v).run P w=.ok (.string ⟨s.toArray⟩) w:=by
  obtain ⟨hl,a,cap,rfl,hc1,hc2,hr⟩:=hR
  have hl':s.length=q:=by simpa using hl
  subst hl'
  rcases Nat.eq_zero_or_pos s.length with h0|h0
  ·obtain rfl:s=[]:=List.eq_nil_of_length_eq_zero h0
   cases a with
   | none=>exact run_convert_bytes_nil (P:=P) w src e hs he 0 cap dst hd
   | some a=>exact run_convert_bytes_back (P:=P) w src dst e a cap [] hs he hd (fun j hj=>by simp at hj)
  ·obtain ⟨g,o,rfl,_,hc⟩:=hr h0
   exact run_convert_bytes_back (P:=P) w src dst e _ cap s hs he hd (fun j hj=>by
    rw [Addr.add_mid]
    exact hc j _ (by rw [List.getElem?_map,List.getElem?_eq_getElem hj]; rfl))
 unfold execOp;simp [hρ _ _ hx,hr,Qv]
theorem smk {e:TypeId} {z:Value} {size bytes q:Nat} {k':IntKind} {m':Int} (hx:ev l x=some (.int k m)) (hy:ev l y=some (.int k' m')) (hm:m=(q:Int)) (hm':m'=(q:Int)) (ht:P.underlying t=some (.slice e)) (hinfo:(P.info? e).map (fun i=>(i.zero,i.size,i.bytes))=some (some z,size,bytes)) (hbytes:bytes*q≤281474976710656) (h63:q≤maxLen) (hd:Nat.blt d N=true)
  (h:∀ g w',Row w' e size (.slice (some ⟨g,0,none⟩) q q) q (madeCells z.cells (q*size)).toList→w.heap.size≤g→Below w.heap.size w w'→WL P N ds ops Q rest ((d,.slice (some ⟨g,0,none⟩) q q)::l) w') :
  WL P N ds ops Q (⟨some d,.makeSlice t x y,ty,pos,aft,none⟩::rest) l w:=by
 obtain ⟨i,hi,hz,hsize,hby⟩:=Qbk hinfo
 subst hm hm' hsize hby
 have hb':(i.bytes:Int)*(q:Int)≤281474976710656:=by
  have h:((i.bytes*q:Nat):Int)≤281474976710656:=by omega
  rwa [Int.natCast_mul] at h
 have hr:=run_make (P:=P) w t e i z ht hi hz k k' q q Qb (Int.le_refl _) hb' (by simp only [maxLen] at h63; omega);simp only [Int.toNat_natCast] at hr
 refine st (w':=w.alloc (.cells (madeCells z.cells (q*i.size)) e)) (fun ρ hρ=>?_) hd<|h _ _ (Row.new w e i.size q _ h63 (by simp [madeCells])) (Nat.le_refl _)<|(Below.refl _ _).alloc (Nat.le_refl _) _
 unfold execOp;simp [hρ _ _ hx,hρ _ _ hy,hr]
end
end
end Go.Proofs.YtgiccohjijhfkaaGreatDoor
