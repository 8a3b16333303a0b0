/- Part 4. -/
import Derived.Defers
import Derived.Recover
import Derived.Maps.RangeRun
import Derived.RangeFuncNested
import Derived.RangeFuncCalls
import Derived.RangeFuncLeaves
import Derived.Test.YtgiccohjijhfkaaGreatDoorPackPlaysP3
set_option maxRecDepth 100000
set_option maxHeartbeats 4000000
namespace Go.Proofs.YtgiccohjijhfkaaGreatDoor
section
open Go.RowKit
section
variable {P:Program} {ops:Array Oper} {Q:Exit→Act→World→Prop} {S:Array Bool→World→Prop} {n:Nat} {w0:World}
def Shut (ops:Array Oper) (L:Array Bool):Prop:=∀ (j:Nat) (oj:Oper),ops[j]?=some oj→L.getD j false=true→∀ e∈oj.after,Region.binds .any e=true→L.getD e.on false=true
theorem Shut.set {L:Array Bool} {i:Nat} (h:Shut ops L) (hi:i∈Region.ready .any ops L):Shut ops (L.setIfInBounds i true):=by
 obtain ⟨_,oi,hoi,hall⟩:=mem_ready.1 hi;intro j oj hj hl e he hb
 by_cases hij:i=j
 ·subst hij;obtain rfl:oj=oi:=Option.some.inj (hj.symm.trans hoi)
  exact getD_set_true<|hall e he hb
 ·rw [getD_set_ne false hij] at hl
  exact getD_set_true<|h j oj hj hl e he hb
def Ue (P:Program) (ops:Array Oper) (Q:Exit→Act→World→Prop) (S:Array Bool→World→Prop):Nat→Array Bool→Act→World→Prop
  | 0,L,a,w=>Region.ready .any ops L=[]∧Q .normal a w
  | f+1,L,a,w=>(Region.ready .any ops L=[]→Q .normal a w)∧∀ i∈Region.ready .any ops L,wpOp P ops Q i (fun a' w'=>S (L.setIfInBounds i true) w'∧Ue P ops Q S f (L.setIfInBounds i true) a' w') a w
theorem wpAny_of_L':∀ (f:Nat) (L:Array Bool) (a:Act) (w:World),Ue P ops Q S f L a w→wpAny P .any ops Q f L a w
 | 0,_,_,_,h=>h
 | f+1,_,_,_,h=>⟨h.1,fun i hi=>wpOp_mono (fun a' w' h'=>wpAny_of_L' f _ a' w' h'.2) (h.2 i hi)⟩
def When (ops:Array Oper) (S:Array Bool→World→Prop) (i:Nat) (w:World):Prop:=∃ L,Shut ops L∧L.getD i true=false∧S L w
theorem Vs {L:Array Bool} {i:Nat} (h:L.getD i true=false):L.getD i false=false:=by
 rcases Nat.lt_or_ge i L.size with h'|h'
 ·simp [h'] at h ⊢; exact h
 ·simp [Array.getElem?_eq_none h'] at h
theorem X5 {i:Nat} {oi:Oper} {v:Value} (hi:ops[i]?=some oi) (hsel:∀ (j:Nat) (o:Oper) cs b,ops[j]?=some o→o.op≠.select cs b)
  (hQ:∀ c a w,Q (.panic c) (a.put oi.dst v) w→Q (.panic c) a w) (hS:∀ L w,S (L.setIfInBounds i true) w↔S L w) :
  ∀ (f:Nat) (L:Array Bool) (a:Act) (w:World),Shut ops L →
   (∀ j oj,ops[j]?=some oj→j≠i→L.getD j true=false→(∀ e∈oj.after,Region.binds .any e=true→e.on≠i)→oi.apart ops oj=true) →
   i∈Region.ready .any ops L→YieldsIf P ops (When ops S i) oi v a→S L w →
   Ue P ops Q S f (L.setIfInBounds i true) (a.put oi.dst v) w→Ue P ops Q S (f+1) L a w:=by
 intro f
 induction f with
 | zero =>
  intro L a w hL _ hr hy hs H;refine ⟨fun h=>(by rw [h] at hr; cases hr),fun j hj=>?_⟩
  by_cases hji:j=i
  ·subst hji;exact hy.wpOp hi ⟨L,hL,(mem_ready.1 hr).1,hs⟩ ⟨(hS L w).2 hs,H⟩
  ·have:=ready_mono hj hji
   rw [H.1] at this
   cases this
 | succ f ih =>
  intro L a w hL hfree hr hy hs H;refine ⟨fun h=>(by rw [h] at hr; cases hr),fun j hj=>?_⟩
  by_cases hji:j=i
  ·subst hji;exact hy.wpOp hi ⟨L,hL,(mem_ready.1 hr).1,hs⟩ ⟨(hS L w).2 hs,H⟩
  ·have h1:=H.2 j (ready_mono hj hji);obtain ⟨hjun,oj,hoj,hall⟩:=mem_ready.1 hj
   have hnot:∀ e∈oj.after,Region.binds .any e=true→e.on≠i:=fun e he hb heq=>by
    have h1:=hall e he hb;rw [heq,Vs (mem_ready.1 hr).1] at h1
    cases h1
   have h2:=wpOp_putIf hoj (hfree j oj hoj hji hjun hnot) (fun cs b=>hsel i oi cs b hi) (fun cs b=>hsel j oj cs b hoj) hQ hy h1;have hfree':∀ k ok,ops[k]?=some ok→k≠i→(L.setIfInBounds j true).getD k true=false →
     (∀ e∈ok.after,Region.binds .any e=true→e.on≠i)→oi.apart ops ok=true:=fun k ok hk hki hun hno=>by
    refine hfree k ok hk hki ?_ hno
    by_cases hjk:j=k
    ·subst hjk; exact hjun
    ·rw [getD_set_ne true hjk] at hun; exact hun
   refine wpOp_mono (fun a' w' h3=>?_) h2;rw [Array.setIfInBounds_comm _ _ (Ne.symm hji)] at h3;have h4:=(hS _ _).1 h3.2.1;exact ⟨h4,ih (L.setIfInBounds j true) a' w' (hL.set hj) hfree' (ready_mono hr (Ne.symm hji)) h3.1 h4 h3.2.2⟩
def HW (o:Oper):Bool:=(match o.op with|.move _=>true|_=>false)
theorem Qae {o:Oper} {v:Value} {a:Act} {S:World→Prop} (h:YieldsIf P ops (fun w=>w=w0) o v a) (hm:HW o=true):YieldsIf P ops S o v a:=by
 unfold HW at hm
 rcases h with ⟨h1,h2⟩|h
 ·refine .inl ⟨h1,fun w _=>?_⟩;have h3:=h2 w0 rfl;unfold execOp at h3 ⊢
  split at hm
  ·rename_i x hx
   rw [hx] at h3 ⊢;simp only [Sem.run_pure] at h3 ⊢;injection h3 with h4 _;rw [h4]
  ·cases hm
 ·exact .inr h
def Hu (P:Program) (ops:Array Oper) (w0:World) (K:Act→Prop):List Oper→Act→Prop
  | [],a=>K a
  | o::l,a=>∃ v,YieldsIf P ops (fun w=>w=w0) o v a∧Hu P ops w0 K l (a.put o.dst v)
def Qdb (ops:Array Oper) (g:Nat):Nat→Nat→Array Bool→Bool
  | 0,k,L=>Region.seqB .any ops g k L
  | f+1,k,L=>(Region.ready .any ops L).contains k && Region.free .any ops L k && Qdb ops g f (k+1) (L.setIfInBounds k true)
inductive Led (ops:Array Oper) (n:Nat):Nat→Prop
  | here:Led ops n n
  | step {i j:Nat} (h:Led ops n j) (hw:Region.waitsFor .any ops j i=true):Led ops n i
theorem Led.listed {i:Nat} (h:Led ops n i) {L:Array Bool} (hL:Shut ops L) (hn:L.getD n false=true):L.getD i false=true:=by
 induction h with
 | here=>exact hn
 | step h hw ih =>
  obtain ⟨oj,hoj,e,he,hb,hon⟩:=Region.waitsFor_spec hw;rw [← hon];exact hL _ oj hoj ih e he hb
def ledB (ops:Array Oper):Nat→List Nat→List Nat
  | 0,r=>r
  | k+1,r=>ledB ops k (if r.any (fun j=>Region.waitsFor .any ops j k) then k::r else r)
theorem ledB_spec:∀ (k:Nat) (r:List Nat),(∀ i∈r,Led ops n i)→∀ i∈ledB ops k r,Led ops n i
 | 0,_,h=>h
 | k+1,r,h=>by
  refine ledB_spec k _ (fun i hi=>?_)
  split at hi
  ·rename_i hw
   obtain ⟨j,hj,hjk⟩:=List.any_eq_true.1 hw
   rcases List.mem_cons.1 hi with rfl|hi
   ·exact .step (h j hj) hjk
   ·exact h i hi
  ·exact h i hi
def sunk (ops:Array Oper) (n:Nat):Bool :=
  let r:=ledB ops n [n]
  (List.range n).all fun i=>(match ops[i]? with|some o=>HW o|none=>false) || r.contains i
theorem Qqx (h:sunk ops n=true) {i:Nat} (hi:i<n) {o:Oper} (ho:ops[i]?=some o):HW o=true∨Led ops n i:=by
 have h1:=List.all_eq_true.1 h i (List.mem_range.2 hi);simp only [ho,Bool.or_eq_true] at h1
 refine h1.imp id fun hc=>?_
 exact ledB_spec n [n] (fun i hi=>by rw [List.mem_singleton.1 hi]; exact .here) i (by simpa using hc)
def Qql (n:Nat) (w0:World) (L:Array Bool) (w:World):Prop:=L.getD n false=true∨w=w0
theorem wpAnyL'_of_seq:∀ (l:List Oper) (k:Nat) (L:Array Bool) (a:Act) (w:World),(∀ j,l[j]?=ops[k+j]?)→n<L.size →
  Region.seqB .any ops l.length k L=true→(k=n∨L.getD n false=true)→wpList P ops Q l a w→Ue P ops Q (Qql n w0) l.length L a w
 | [],_,_,_,_,_,_,hB,_,h=>⟨by simpa [Region.seqB] using hB,h⟩
 | o::l,k,L,a,w,hl,hsz,hB,hk,h=>by
  have h0:ops[k]?=some o:=by simpa using (hl 0).symm
  simp only [List.length_cons,Region.seqB,Bool.and_eq_true,decide_eq_true_eq] at hB;refine ⟨fun h1=>(by rw [hB.1] at h1; cases h1),fun i hi=>?_⟩;rw [hB.1] at hi
  obtain rfl:i=k:=by simpa using hi
  have hn:(L.setIfInBounds i true).getD n false=true:=by
   rcases hk with rfl|hk
   ·simp [hsz]
   ·exact getD_set_true hk
  have hw:wpOp P ops Q i (wpList P ops Q l) a w:=by unfold wpOp; simp only [h0]; exact h
  exact wpOp_mono (fun a' w' h'=>⟨.inl hn,wpAnyL'_of_seq l (i+1) _ a' w' (fun j=>by have:=hl (j+1); simpa [Nat.add_assoc,Nat.add_comm 1 j] using this) (by simpa using hsz) hB.2 (.inr hn) h'⟩) hw
theorem U5 (hsel:Region.noSelect ops=true) (hs:sunk ops n=true) (hQ:∀ c a d v w,Q (.panic c) (a.put d v) w→Q (.panic c) a w) (r:List Oper) (hr:∀ j,r[j]?=ops[n+j]?) :
  ∀ (l:List Oper) (k:Nat) (L:Array Bool) (a:Act),(∀ j,j<l.length→l[j]?=ops[k+j]?)→k+l.length=n→n<L.size→Shut ops L →
  Qdb ops r.length l.length k L=true→Hu P ops w0 (fun a=>wpList P ops Q r a w0) l a→Ue P ops Q (Qql n w0) (l.length+r.length) L a w0
 | [],k,L,a,_,hk,hsz,_,hB,h=>by
  obtain rfl:k=n:=by simpa using hk
  rw [List.length_nil,Nat.zero_add];exact wpAnyL'_of_seq r k L a w0 hr hsz (by simpa [Qdb] using hB) (.inl Z) h
 | o::l,k,L,a,hl,hk,hsz,hL,hB,h=>by
  have h0:ops[k]?=some o:=by simpa using (hl 0 Q0).symm
  simp only [List.length_cons,Qdb,Bool.and_eq_true] at hB;obtain ⟨⟨hrd,hf⟩,hB'⟩:=hB
  have hkn:k<n:=by simp only [List.length_cons] at hk; omega
  have hrd':k∈Region.ready .any ops L:=by simpa using hrd
  obtain ⟨v,hy,hK⟩:=h
  have hy':YieldsIf P ops (When ops (Qql n w0) k) o v a:=by
   rcases Qqx hs hkn h0 with hm|hled
   ·exact Qae hy hm
   ·rcases hy with ⟨h1,h2⟩|h1
    ·refine .inl ⟨h1,fun w hw=>?_⟩;obtain ⟨L',hL',hk',hS⟩:=hw
     rcases hS with hS|rfl
     ·have:=hled.listed hL' hS
      rw [Vs hk'] at this
      cases this
     ·exact h2 _ Z
    ·exact .inr h1
  rw [List.length_cons,show l.length+1+r.length=(l.length+r.length)+1 by omega];refine X5 h0 (Region.noSelect_spec hsel) (fun c a w=>hQ c a _ _ w) (fun L w=>?_) _ L a w0 hL (Region.free_spec h0 hf) hrd' hy' (.inr Z)
   (U5 hsel hs hQ r hr l (k+1) _ _ (fun j hj=>by have:=hl (j+1) (by simp; omega); simpa [Nat.add_assoc,Nat.add_comm 1 j] using this) (by simp only [List.length_cons] at hk; omega) (by simpa using hsz) (hL.set hrd') hB' hK)
  unfold Qql;rw [getD_set_ne false (by omega:k≠n)]
def Qns (ops:Array Oper) (n:Nat):Bool:=Region.noSelect ops && decide (n<ops.size) && sunk ops n && Qdb ops (ops.size-n) n 0 (Array.replicate ops.size false)
theorem Qas {id:Nat} {a:Act} {w:World} {l:List Oper} (n:Nat) (hm:P.follows .mixedOrders=true) (hB:Qns l.toArray n=true)
  (hQ:∀ c a d v w,Q (.panic c) (a.put d v) w→Q (.panic c) a w)
  (h:Hu P l.toArray w.drew (fun a'=>wpList P l.toArray Q (l.drop n) a' w.drew) (l.take n) a):(Code.region id l.toArray true).wp P Q a w:=by
 simp only [Qns,Bool.and_eq_true,decide_eq_true_eq] at hB;obtain ⟨⟨⟨hsel,hn⟩,hs⟩,hh⟩:=hB
 have hn':n<l.length:=by simpa using hn
 have htl:(l.take n).length=n:=by simp; omega
 have hdl:(l.drop n).length=l.toArray.size-n:=by simp
 refine wp_region_any hm ?_
 have H:=U5 (w0:=w.drew) hsel hs hQ (l.drop n) (fun j=>by simp [List.getElem?_drop]) (l.take n) 0 (Array.replicate l.toArray.size false) a (fun j hj=>by
  have hj':j<n:=by rw [htl] at hj; exact hj
  simp [hj']) (by simpa using htl) (by simpa using hn') (fun j oj _ hl=>(by rw [getD_replicate_false] at hl; cases hl)) (by rw [htl,hdl]; exact hh) h
 rw [htl,hdl,show n+(l.toArray.size-n)=l.toArray.size by omega] at H;exact wpAny_of_L' _ _ _ _ H
end
section
variable {P:Program} {N:Nat} {ds:List Deferred} {Q:Post} {K:Env→Prop} {os rest:List Oper} {ops:Array Oper} {l:Env} {w:World} {op:Op} {ty:TypeId} {pos:String} {aft:Array Edge} {d:Nat} {v:Value}
def WF (P:Program) (N:Nat) (ds:List Deferred) (ops:Array Oper) (Q:Env→Prop) (os:List Oper) (l:Env) (w:World):Prop:=∀ a,Rep N ds l a→Hu P ops w (fun a'=>∃ l',Rep N ds l' a'∧Q l') os a
theorem fN (h:K l):WF P N ds ops K [] l w:=fun _ ha=>⟨_,ha,h⟩
theorem fY (hx:X P l op ty w v w) (hd:Nat.blt d N=true) (h:WF P N ds ops K rest ((d,v)::l) w):WF P N ds ops K (⟨some d,op,ty,pos,aft,none⟩::rest) l w:=fun a ha =>
 ⟨v,.inl ⟨rfl,fun _ hw=>by rw [hw]; exact hx _ ha.knows⟩,h _ (ha.put hd v)⟩
theorem Qbt {A B:Act→Prop} (h:∀ a,A a→B a):∀ (os:List Oper) (a:Act),Hu P ops w A os a→Hu P ops w B os a
 | [],_,hh=>h _ hh
 | _::rest,_,⟨v,hy,hh⟩=>⟨v,hy,Qbt h rest _ hh⟩
theorem W_float {id:Nat} (n:Nat) (hm:P.follows .mixedOrders=true) (hB:Qns os.toArray n=true)
  (h:WF P N ds os.toArray (fun l=>WL P N ds os.toArray (Yi (fun l w=>Q .normal l w)) (os.drop n) l w.drew) (os.take n) l w.drew):W P N ds Q (.region id os.toArray true) l w:=fun a ha =>
 Code.wp_mono (fun e a w hq=>by
  obtain ⟨l',hr,hq⟩:=hq;refine ⟨l',hr,?_⟩
  cases e with
  | normal=>exact hq
  | _=>exact hq.elim) (Qas (Q:=X3 N ds (Yi (fun l w=>Q .normal l w))) n hm hB (fun c a d v w hq=>by
   obtain ⟨_,_,hq⟩:=hq
   exact hq.elim) (Qbt (fun a' h'=>by
    obtain ⟨l',hr,hq⟩:=h'
    exact hq a' hr) _ _ (h a ha)))
end
section
variable {P:Program} {ops:Array Oper} {Q:Exit→Act→World→Prop} {n:Nat} {S0:World→Prop}
def Ud (P:Program) (ops:Array Oper) (Q:Exit→Act→World→Prop) (S0:World→Prop) (K:Act→World→Prop):List Oper→List Bool→Act→World→Prop
  | [],_,a,w=>K a w
  | o::l,true::r,a,w=>∃ v,YieldsIf P ops S0 o v a∧Ud P ops Q S0 K l r (a.put o.dst v) w
  | o::l,r,a,w=>Region.wanted o (yielded ops a.tmps)=true∧o.wp P a w (fun a' w'=>S0 w'∧Ud P ops Q S0 K l r.tail a' w') Q
def Qml (ops:Array Oper) (n k:Nat):Bool:=(match ops[k]? with|some o=>HW o|none=>false) || (ledB ops n [n]).contains k
theorem Qjj {k:Nat} (h:Qml ops n k=true) {o:Oper} (ho:ops[k]?=some o):HW o=true∨Led ops n k:=by
 unfold Qml at h;simp only [ho,Bool.or_eq_true] at h
 refine h.imp id fun hc=>?_
 exact ledB_spec n [n] (fun i hi=>by rw [List.mem_singleton.1 hi]; exact .here) k (by simpa using hc)
def UX (ops:Array Oper) (n g:Nat):List Bool→Nat→Array Bool→Bool
  | [],k,L=>Region.seqB .any ops g k L
  | true::r,k,L=>(Region.ready .any ops L).contains k && Region.free .any ops L k && Qml ops n k && UX ops n g r (k+1) (L.setIfInBounds k true)
  | false::r,k,L=>decide (Region.ready .any ops L=[k]) && UX ops n g r (k+1) (L.setIfInBounds k true)
def Qqo (n:Nat) (S0:World→Prop) (L:Array Bool) (w:World):Prop:=L.getD n false=true∨S0 w
theorem wpAnyL'_of_seqS:∀ (l:List Oper) (k:Nat) (L:Array Bool) (a:Act) (w:World),(∀ j,l[j]?=ops[k+j]?)→n<L.size →
  Region.seqB .any ops l.length k L=true→(k=n∨L.getD n false=true)→wpList P ops Q l a w→Ue P ops Q (Qqo n S0) l.length L a w
 | [],_,_,_,_,_,_,hB,_,h=>⟨by simpa [Region.seqB] using hB,h⟩
 | o::l,k,L,a,w,hl,hsz,hB,hk,h=>by
  have h0:ops[k]?=some o:=by simpa using (hl 0).symm
  simp only [List.length_cons,Region.seqB,Bool.and_eq_true,decide_eq_true_eq] at hB;refine ⟨fun h1=>(by rw [hB.1] at h1; cases h1),fun i hi=>?_⟩;rw [hB.1] at hi
  obtain rfl:i=k:=by simpa using hi
  have hn:(L.setIfInBounds i true).getD n false=true:=by
   rcases hk with rfl|hk
   ·simp [hsz]
   ·exact getD_set_true hk
  have hw:wpOp P ops Q i (wpList P ops Q l) a w:=by unfold wpOp; simp only [h0]; exact h
  exact wpOp_mono (fun a' w' h'=>⟨.inl hn,wpAnyL'_of_seqS l (i+1) _ a' w' (fun j=>by have:=hl (j+1); simpa [Nat.add_assoc,Nat.add_comm 1 j] using this) (by simpa using hsz) hB.2 (.inr hn) h'⟩) hw
theorem KT (hsel:Region.noSelect ops=true) (hQ:∀ c a d v w,Q (.panic c) (a.put d v) w→Q (.panic c) a w) (r:List Oper) (hr:∀ j,r[j]?=ops[n+j]?) :
  ∀ (l:List Oper) (bs:List Bool) (k:Nat) (L:Array Bool) (a:Act) (w:World),(∀ j,j<l.length→l[j]?=ops[k+j]?)→bs.length=l.length→k+l.length=n→n<L.size→Shut ops L →
  UX ops n r.length bs k L=true→S0 w→Ud P ops Q S0 (fun a w=>wpList P ops Q r a w) l bs a w→Ue P ops Q (Qqo n S0) (l.length+r.length) L a w
 | [],[],k,L,a,w,_,_,hk,hsz,_,hB,_,h=>by
  obtain rfl:k=n:=by simpa using hk
  rw [List.length_nil,Nat.zero_add];exact wpAnyL'_of_seqS r k L a w hr hsz (by simpa [UX] using hB) (.inl Z) h
 | [],_::_,_,_,_,_,_,hb,_,_,_,_,_,_=>by cases hb
 | _::_,[],_,_,_,_,_,hb,_,_,_,_,_,_=>by cases hb
 | o::l,true::bs,k,L,a,w,hl,hb,hk,hsz,hL,hB,hS,h=>by
  have h0:ops[k]?=some o:=by simpa using (hl 0 Q0).symm
  simp only [UX,Bool.and_eq_true] at hB;obtain ⟨⟨⟨hrd,hf⟩,hsk⟩,hB'⟩:=hB
  have hkn:k<n:=by simp only [List.length_cons] at hk; omega
  have hrd':k∈Region.ready .any ops L:=by simpa using hrd
  obtain ⟨v,hy,hK⟩:=h
  have hy':YieldsIf P ops (When ops (Qqo n S0) k) o v a:=by
   rcases Qjj hsk h0 with hm|hled
   ·rcases hy with ⟨h1,h2⟩|h1
    ·exact Qae (w0:=w) (.inl ⟨h1,fun _ e=>by rw [e]; exact h2 w hS⟩) hm
    ·exact .inr h1
   ·rcases hy with ⟨h1,h2⟩|h1
    ·refine .inl ⟨h1,fun w' hw=>?_⟩;obtain ⟨L',hL',hk',hS'⟩:=hw
     rcases hS' with hS'|hS'
     ·have:=hled.listed hL' hS'
      rw [Vs hk'] at this
      cases this
     ·exact h2 _ hS'
    ·exact .inr h1
  rw [List.length_cons,show l.length+1+r.length=(l.length+r.length)+1 by omega];refine X5 h0 (Region.noSelect_spec hsel) (fun c a w=>hQ c a _ _ w) (fun L w=>?_) _ L a w hL (Region.free_spec h0 hf) hrd' hy' (.inr hS)
   (KT hsel hQ r hr l bs (k+1) _ _ w (fun j hj=>by have:=hl (j+1) (by simp; omega); simpa [Nat.add_assoc,Nat.add_comm 1 j] using this) (by simpa using hb) (by simp only [List.length_cons] at hk; omega) (by simpa using hsz) (hL.set hrd') hB' hS hK)
  unfold Qqo;rw [getD_set_ne false (by omega:k≠n)]
 | o::l,false::bs,k,L,a,w,hl,hb,hk,hsz,hL,hB,hS,h=>by
  have h0:ops[k]?=some o:=by simpa using (hl 0 Q0).symm
  simp only [UX,Bool.and_eq_true,decide_eq_true_eq] at hB
  have hrd':k∈Region.ready .any ops L:=by rw [hB.1]; simp
  rw [List.length_cons,show l.length+1+r.length=(l.length+r.length)+1 by omega];refine ⟨fun h1=>(by rw [hB.1] at h1; cases h1),fun i hi=>?_⟩;rw [hB.1] at hi
  obtain rfl:i=k:=by simpa using hi
  have hw:wpOp P ops Q i (fun a' w'=>S0 w'∧Ud P ops Q S0 (fun a w=>wpList P ops Q r a w) l bs a' w') a w:=by
   unfold wpOp;simp only [h0];rw [if_pos h.1];exact .inl h.2
  exact wpOp_mono (fun a' w' h'=>⟨.inr h'.1,KT hsel hQ r hr l bs (i+1) _ _ w' (fun j hj=>by have:=hl (j+1) (by simp; omega); simpa [Nat.add_assoc,Nat.add_comm 1 j] using this) (by simpa using hb) (by simp only [List.length_cons] at hk; omega) (by simpa using hsz) (hL.set hrd') hB.2 h'.1 h'.2⟩) hw
def Qgt (ops:Array Oper) (n:Nat) (bs:List Bool):Bool:=Region.noSelect ops && decide (n<ops.size) && (bs.length == n) && UX ops n (ops.size-n) bs 0 (Array.replicate ops.size false)
theorem Qar {id:Nat} {a:Act} {w:World} {l:List Oper} (S0:World→Prop) (n:Nat) (bs:List Bool) (hm:P.follows .mixedOrders=true) (hB:Qgt l.toArray n bs=true)
  (hQ:∀ c a d v w,Q (.panic c) (a.put d v) w→Q (.panic c) a w) (hS:S0 w.drew)
  (h:Ud P l.toArray Q S0 (fun a' w'=>wpList P l.toArray Q (l.drop n) a' w') (l.take n) bs a w.drew):(Code.region id l.toArray true).wp P Q a w:=by
 simp only [Qgt,Bool.and_eq_true,decide_eq_true_eq,beq_iff_eq] at hB;obtain ⟨⟨⟨hsel,hn⟩,hbl⟩,hh⟩:=hB
 have hn':n<l.length:=by simpa using hn
 have htl:(l.take n).length=n:=by simp; omega
 have hdl:(l.drop n).length=l.toArray.size-n:=by simp
 refine wp_region_any hm ?_
 have H:=KT (n:=n) (S0:=S0) hsel hQ (l.drop n) (fun j=>by simp [List.getElem?_drop]) (l.take n) bs 0 (Array.replicate l.toArray.size false) a w.drew (fun j hj=>by
  have hj':j<n:=by rw [htl] at hj; exact hj
  simp [hj']) (by rw [htl,hbl]) (by simpa using htl) (by simpa using hn') (fun j oj _ hl=>(by rw [getD_replicate_false] at hl; cases hl)) (by rw [hdl]; exact hh) hS h
 rw [htl,hdl,show n+(l.toArray.size-n)=l.toArray.size by omega] at H;exact wpAny_of_L' _ _ _ _ H
end
section
variable {P:Program} {N:Nat} {ds:List Deferred} {Q:Post} {K:Env→World→Prop} {S0:World→Prop} {os rest:List Oper} {bs:List Bool} {ops:Array Oper} {l:Env} {w:World} {op:Op} {ty:TypeId} {pos:String} {aft:Array Edge} {d:Nat} {v:Value}
def WP (P:Program) (N:Nat) (ds:List Deferred) (ops:Array Oper) (Q:Post) (S0:World→Prop) (K:Env→World→Prop) (os:List Oper) (bs:List Bool) (l:Env) (w:World):Prop :=
  ∀ a,Rep N ds l a→Ud P ops (X3 N ds Q) S0 (fun a' w'=>∃ l',Rep N ds l' a'∧K l' w') os bs a w
theorem pN (h:K l w):WP P N ds ops Q S0 K [] [] l w:=fun _ ha=>⟨_,ha,h⟩
theorem pY (hx:∀ w,S0 w→X P l op ty w v w) (hd:Nat.blt d N=true) (h:WP P N ds ops Q S0 K rest bs ((d,v)::l) w):WP P N ds ops Q S0 K (⟨some d,op,ty,pos,aft,none⟩::rest) (true::bs) l w:=fun _ ha =>
 ⟨v,.inl ⟨rfl,fun w hw=>hx w hw _ ha.knows⟩,h _ (ha.put hd v)⟩
theorem pL {od:Option Nat} (h:∀ Q',(∀ l w,S0 w→WP P N ds ops Q S0 K rest bs l w→Q' .normal l w)→(∀ c l w,Q (.panic c) l w→Q' (.panic c) l w)→WL P N ds ops Q' [⟨od,op,ty,pos,aft,none⟩] l w):WP P N ds ops Q S0 K (⟨od,op,ty,pos,aft,none⟩::rest) (false::bs) l w:=fun a ha=>by
 have:=h (fun e l w=>match e with|.normal=>S0 w∧WP P N ds ops Q S0 K rest bs l w|.panic c=>Q (.panic c) l w|_=>False) (fun l w hs h=>⟨hs,h⟩) (fun c l w h=>h) a ha
 unfold wpList at this;have hw:Region.wanted ⟨od,op,ty,pos,aft,none⟩ (yielded ops a.tmps)=true:=rfl;rw [if_pos hw] at this;refine ⟨hw,?_⟩
 rcases this with this|⟨_,a0,w0,hq⟩
 ·unfold Oper.wp at this ⊢
  revert this
  generalize (execOp a.eval ⟨od,op,ty,pos,aft,none⟩).run P w=res
  intro this;unfold Oper.upon at this ⊢
  split at this
  ·simp only [wpList] at this; obtain ⟨l',hr,hs,h⟩:=this; exact ⟨hs,h _ hr⟩
  ·simp only [wpList] at this; obtain ⟨l',hr,hs,h⟩:=this; exact ⟨hs,h _ hr⟩
  ·simp only [wpList] at this; obtain ⟨l',hr,hs,h⟩:=this; exact ⟨hs,h _ hr⟩
  ·refine Calls.mono this fun e w' h=>?_
   cases e with
   | returned v=>simp only [wpList] at h; obtain ⟨l',hr,hs,h⟩:=h; exact ⟨hs,h _ hr⟩
   | panicked c=>exact h
   | outgrown=>obtain ⟨a0,w0,l0,h1,h2⟩:=h; exact h2.elim
  ·refine Rows.mono this fun v w' h=>?_
   simp only [wpList] at h; obtain ⟨l',hr,hs,h⟩:=h; exact ⟨hs,h _ hr⟩
  ·exact this
  ·exact this.elim
 ·obtain ⟨l0,_,h2⟩:=hq; exact h2.elim
theorem Uc {Q':Exit→Act→World→Prop} {A B:Act→World→Prop} (h:∀ a w,A a w→B a w):∀ (os:List Oper) (bs:List Bool) (a:Act) (w:World),Ud P ops Q' S0 A os bs a w→Ud P ops Q' S0 B os bs a w
 | [],_,_,_,hh=>h _ _ hh
 | _::rest,true::bs,_,_,⟨v,hy,hh⟩=>⟨v,hy,Uc h rest bs _ _ hh⟩
 | _::rest,false::bs,_,_,hh=>⟨hh.1,Oper.wp_mono (fun _ _ h'=>⟨h'.1,Uc h rest bs _ _ h'.2⟩) hh.2⟩
 | _::rest,[],_,_,hh=>⟨hh.1,Oper.wp_mono (fun _ _ h'=>⟨h'.1,Uc h rest [] _ _ h'.2⟩) hh.2⟩
theorem Qis {id:Nat} (S0:World→Prop) (n:Nat) (bs:List Bool) (hm:P.follows .mixedOrders=true) (hB:Qgt os.toArray n bs=true) (hS:S0 w.drew)
  (h:WP P N ds os.toArray (Yi (fun l w=>Q .normal l w)) S0 (fun l w=>WL P N ds os.toArray (Yi (fun l w=>Q .normal l w)) (os.drop n) l w) (os.take n) bs l w.drew):W P N ds Q (.region id os.toArray true) l w:=fun a ha =>
 Code.wp_mono (fun e a w hq=>by
  obtain ⟨l',hr,hq⟩:=hq;refine ⟨l',hr,?_⟩
  cases e with
  | normal=>exact hq
  | _=>exact hq.elim) (Qar (Q:=X3 N ds (Yi (fun l w=>Q .normal l w))) S0 n bs hm hB (fun c a d v w hq=>by
   obtain ⟨_,_,hq⟩:=hq
   exact hq.elim) hS (Uc (fun a' w' h'=>by
    obtain ⟨l',hr,hq⟩:=h'
    exact hq a' hr) _ _ _ _ (h a ha)))
theorem H5 {id:Nat} {y:Code} (S0:World→Prop) (n:Nat) (bs:List Bool) (hm:P.follows .mixedOrders=true) (hB:Qgt os.toArray n bs=true) (hS:S0 w.drew)
  (h:WP P N ds os.toArray (Yi (W P N ds Q y)) S0 (fun l w=>WL P N ds os.toArray (Yi (W P N ds Q y)) (os.drop n) l w) (os.take n) bs l w.drew):W P N ds Q (.seq (.region id os.toArray true) y) l w :=
 Qe (Qis S0 n bs hm hB hS h)
end
end
section
open Go.RowKit
def okL:Env→Array Value→Prop
  | [],_=>True
  | (t,v)::r,a=>a.getD t undef=v∧okL r a
theorem okL_val:∀ {l:Env} {a:Array Value},okL l a→∀ t v,lk l t=some v→a.getD t undef=v
 | [],_,_,_,_,h=>by cases h
 | (d,u)::r,a,hs,t,v,h=>by
  unfold lk at h
  cases ht:Nat.beq t d with
  | true =>
   rw [ht] at h;have e:t=d:=Nat.eq_of_beq_eq_true ht;subst e;simp only [cond_true,Option.some.injEq] at h;subst h;exact hs.1
  | false =>
   rw [ht] at h;exact okL_val hs.2 t v h
theorem W_out {P:Program} {N:Nat} {ds:List Deferred} {Q:Post} {Q':Exit→Act→World→Prop} {c:Code} {l:Env} {w:World} {a:Act} (h:W P N ds Q c l w) (hs:a.tmps.size=N) (hd:a.defers=ds) (hv:okL l a.tmps)
  (hq:∀ e l a w,Rep N ds l a→Q e l w→Q' e a w):c.wp P Q' a w :=
 Code.wp_mono (fun e a w hx=>by obtain ⟨l,hr,hx⟩:=hx; exact hq e l a w hr hx) (h a ⟨hs,hd,okL_val hv⟩)
end
section
open Go.RowKit
open Go.ChangeMaps (setBlock)
structure IterAt {κ ν:Type} [DecidableEq κ] (w:World) (r b:Nat) (enc:κ→Value) (encv:ν→Value) (m:List (κ×ν)) (pre:List κ):Prop where
  nodup:(m.map (·.1)).Nodup
  mem:∀ k∈pre,k∈m.map (·.1)
  pnod:pre.Nodup
  obj:∃ (ts:List Nat) (clock:Nat) (seen:Array Nat),ts.length=m.length∧ts.Nodup∧(∀ t∈ts,t<clock)∧w.heap[b]?=some (.map ((m.zip ts).map fun p=>(⟨enc p.1.1,encv p.1.2,p.2⟩:MapEntry)).toArray clock) ∧
    w.heap[r]?=some (.mapIter (some b) clock seen clock)∧∀ p∈m.zip ts,p.2∈seen.toList↔p.1.1∈pre
section
variable {κ ν:Type} [DecidableEq κ] {w w':World} {r b:Nat} {enc:κ→Value} {encv:ν→Value} {m:List (κ×ν)} {pre:List κ} {P:Program}
theorem IterAt.of_walks (h:IterAt w r b enc encv m pre) (hk:KeepsWalks w w'):IterAt w' r b enc encv m pre:=by
 obtain ⟨ts,clock,seen,h1,h2,h3,h4,h5,h6⟩:=h.obj;exact ⟨h.nodup,h.mem,h.pnod,ts,clock,seen,h1,h2,h3,hk.same _ _ h4 Z,hk.same _ _ h5 Z,h6⟩
theorem IterAt.walk (h:IterAt w r b enc encv m pre):∃ o:Obj,w.heap[r]?=some o∧o.isWalk=true:=by
 obtain ⟨ts,clock,seen,h1,h2,h3,h4,h5,h6⟩:=h.obj;exact ⟨_,h5,Z⟩
omit [DecidableEq κ] in
theorem Qja {m:List (κ×ν)} {ts:List Nat} (hm:(m.map (·.1)).Nodup) {p q:(κ×ν)×Nat} (hp:p∈m.zip ts) (hq:q∈m.zip ts) (he:p.1.1=q.1.1):p=q:=by
 obtain ⟨i,hi,rfl⟩:=List.mem_iff_getElem.1 hp;obtain ⟨j,hj,rfl⟩:=List.mem_iff_getElem.1 hq;simp only [List.getElem_zip] at he ⊢
 have hi':i<m.length:=by rw [List.length_zip] at hi; omega
 have hj':j<m.length:=by rw [List.length_zip] at hj; omega
 have:i=j:=by
  have:=(List.getElem_inj (xs:=m.map (·.1)) (h₀:=by simpa using hi') (h₁:=by simpa using hj') hm).1 (by simpa using he)
  exact this
 subst this
 rfl
omit [DecidableEq κ] in
theorem Qmc {m:List (κ×ν)} {ts:List Nat} (ht:ts.Nodup) {p q:(κ×ν)×Nat} (hp:p∈m.zip ts) (hq:q∈m.zip ts) (he:p.2=q.2):p=q:=by
 obtain ⟨i,hi,rfl⟩:=List.mem_iff_getElem.1 hp;obtain ⟨j,hj,rfl⟩:=List.mem_iff_getElem.1 hq;simp only [List.getElem_zip] at he ⊢
 have hi':i<ts.length:=by rw [List.length_zip] at hi; omega
 have hj':j<ts.length:=by rw [List.length_zip] at hj; omega
 have:i=j:=(List.getElem_inj (xs:=ts) (h₀:=hi') (h₁:=hj') ht).1 he
 subst this
 rfl
theorem IterAt.next (h:IterAt w r b enc encv m pre) (ty:TypeId) :
  (pre.Perm (m.map (·.1))∧(Instr.next (.pointer (some ⟨r,0,none⟩)) false ty).run P w=.ok (.tuple #[.bool false]) w) ∨
  ∃ k v w',k∉pre∧(k,v)∈m∧(Instr.next (.pointer (some ⟨r,0,none⟩)) false ty).run P w=.ok (.tuple #[.bool true,enc k,encv v]) w' ∧
   (Instr.entry (.pointer (some ⟨r,0,none⟩))).run P w'=.ok (.tuple #[enc k,encv v]) w'∧IterAt w' r b enc encv m (pre++[k])∧Chg (fun q=>q=r) w w':=by
 obtain ⟨ts,clock,seen,h1,h2,h3,h4,h5,h6⟩:=h.obj
 have hbr:b≠r:=by rintro rfl; rw [h4] at h5; cases h5
 have hold:∀ x∈(((m.zip ts).map fun p=>(⟨enc p.1.1,encv p.1.2,p.2⟩:MapEntry)).toArray).toList,x.born<clock:=by
  intro x hx;simp only [List.mem_map] at hx;obtain ⟨p,hp,rfl⟩:=hx;exact h3 _ (List.of_mem_zip hp).2
 rcases run_next_at (P:=P) w ty r b clock clock seen _ clock h5 h4 hold (Nat.le_refl _) with ⟨h0,hr⟩|⟨e,he,w1,hw1,hr⟩
 ·left
  refine ⟨?_,hr⟩
  have hall:∀ p∈m.zip ts,p.2∈seen.toList:=by
   intro p hp
   refine Classical.byContradiction fun hn=>?_
   have:leftOf ((m.zip ts).map fun p=>(⟨enc p.1.1,encv p.1.2,p.2⟩:MapEntry)).toArray seen≠#[]:=by
    intro hz
    have hmem:(⟨enc p.1.1,encv p.1.2,p.2⟩:MapEntry)∈leftOf ((m.zip ts).map fun p=>(⟨enc p.1.1,encv p.1.2,p.2⟩:MapEntry)).toArray seen:=by
     unfold leftOf;rw [Array.mem_filter];refine ⟨?_,?_⟩
     ·simp only [List.mem_toArray,List.mem_map];exact ⟨p,hp,Z⟩
     ·simpa using hn
    rw [hz] at hmem;simp at hmem
   exact this<|Array.eq_empty_of_size_eq_zero h0
  refine (List.perm_ext_iff_of_nodup h.pnod h.nodup).2 fun k=>⟨h.mem k,fun hk=>?_⟩
  obtain ⟨q,hq,rfl⟩:=List.mem_map.1 hk;obtain ⟨i,hi,rfl⟩:=List.mem_iff_getElem.1 hq
  have hz:(m[i],ts[i]'(by omega))∈m.zip ts:=by
   rw [List.mem_iff_getElem];exact ⟨i,by rw [List.length_zip]; omega,by simp⟩
  exact (h6 _ hz).1<|hall _ hz
 ·right
  have he':e∈((m.zip ts).map fun p=>(⟨enc p.1.1,encv p.1.2,p.2⟩:MapEntry))∧e.born∉seen.toList:=by
   have:=he
   unfold leftOf at this;rw [Array.toList_filter,List.mem_filter] at this;refine ⟨by simpa using this.1,?_⟩;have h2:=this.2
   simpa using h2
  obtain ⟨p,hp,rfl⟩:=List.mem_map.1 he'.1;have hns:=he'.2;simp only at hns hr
  have hkp:p.1.1∉pre:=fun hk=>hns ((h6 p hp).2 hk)
  have hz:=List.of_mem_zip hp
  have hs1:w1.heap=w.heap:=by rcases hw1 with rfl|rfl <;> rfl
  have hsz:r<w1.heap.size:=by rw [hs1]; exact (Array.getElem?_eq_some_iff.1 h5).1
  have hr':(setBlock w1 r (.mapIter (some b) clock (seen.push p.2) clock)).heap[r]?=some (.mapIter (some b) clock (seen.push p.2) clock):=by
   simp [setBlock,hsz]
  have hb':(setBlock w1 r (.mapIter (some b) clock (seen.push p.2) clock)).heap[b]?=some (.map ((m.zip ts).map fun p=>(⟨enc p.1.1,encv p.1.2,p.2⟩:MapEntry)).toArray clock):=by
   show (w1.heap.setIfInBounds r _)[b]?=_
   rw [Array.getElem?_setIfInBounds,if_neg (fun e=>hbr e.symm),hs1];exact h4
  refine ⟨p.1.1,p.1.2,_,hkp,hz.1,hr,?_,⟨h.nodup,?_,?_,ts,clock,seen.push p.2,h1,h2,h3,hb',hr',?_⟩,?_⟩
  ·refine run_entry_at (P:=P) _ r b clock seen _ clock ⟨enc p.1.1,encv p.1.2,p.2⟩ hr' hb' (by simpa using he'.1) ?_;simp only [List.map_map]
   have:(m.zip ts).map ((fun x=>x.born) ∘ fun p=>(⟨enc p.1.1,encv p.1.2,p.2⟩:MapEntry))=ts:=by
    rw [show ((fun x=>x.born) ∘ fun p=>(⟨enc p.1.1,encv p.1.2,p.2⟩:MapEntry))=(Prod.snd:(κ×ν)×Nat→Nat) from rfl];exact List.map_snd_zip Qb
   rw [this];exact h2
  ·intro k hk;rw [List.mem_append,List.mem_singleton] at hk
   rcases hk with hk|rfl
   ·exact h.mem k hk
   ·exact List.mem_map.2 ⟨p.1,hz.1,Z⟩
  ·rw [List.nodup_append];exact ⟨h.pnod,by simp,fun a ha c hc=>by simp at hc; subst hc; rintro rfl; exact hkp ha⟩
  ·intro q hq;rw [Array.toList_push,List.mem_append,List.mem_append,List.mem_singleton,List.mem_singleton,h6 q hq]
   constructor
   ·rintro (h7|h7)
    ·exact .inl h7
    ·exact .inr (by rw [Qmc h2 hq hp h7])
   ·rintro (h7|h7)
    ·exact .inl h7
    ·exact .inr (by rw [Qja h.nodup hq hp h7])
  ·have hc0:Chg (fun q=>q=r) w w1:=by rcases hw1 with rfl|rfl; exact Chg.refl _ _; exact (Chg.refl _ w).drew
   exact hc0.next (Qdv w1 r _) (fun i hi=>.inl hi)
theorem MapAt.iter (h:MapAt w b enc encv m) (t:TypeId) {kt e:TypeId} (ht:P.underlying t=some (.map kt e)) :
  ∃ w',(Instr.range t (.map (some b))).run P w=.ok (.pointer (some ⟨w.heap.size,0,none⟩)) w'∧IterAt w' w.heap.size b enc encv m []∧Below w.heap.size w w':=by
 obtain ⟨ts,clock,h1,h2,h3,h4⟩:=h.obj;have hb:Below w.heap.size w (w.alloc (.mapIter (some b) clock #[] clock)):=(Below.refl _ _).alloc (Nat.le_refl _) _;refine ⟨w.alloc (.mapIter (some b) clock #[] clock),?_,⟨h.nodup,fun k hk=>by simp at hk,by simp,ts,clock,#[],h1,h2.imp (fun h=>Nat.ne_of_lt h),h3,(hb.block b h.lt).trans h4,World.alloc_heap_new w _,fun p _=>by simp⟩,hb⟩;unfold Instr.range;simp only [Sem.run_bind,run_underlying ht,Result.andThen_ok,Vr h4,Sem.run_pure,newObj,World.alloc]
 rfl
theorem IterAt.more {k:κ} (h:IterAt w r b enc encv m (pre++[k])):pre.length<m.length:=by
 have:=List.Nodup.length_le_of_subset h.pnod (fun a ha=>h.mem a ha)
 rw [List.length_append,List.length_map] at this;simp at this
 omega
end
theorem VR {w w':World} (h:Below w.heap.size w w'):w.grownBy w' none:=⟨h.os,h.tape,h.output,h.size,fun k hk _=>h.block k hk⟩
theorem Qhd {w w':World} {r:Nat} (h:Chg (fun q=>q=r) w w'):w.grownBy w' (some r):=⟨h.os,h.tape,h.output,h.size,fun k hk hn=>h.block k hk (fun e=>hn (by rw [e]))⟩
theorem VY {w w':World} {row:Option Nat} (h:w.grownBy w' row):Chg (fun k=>row=some k) w w':=⟨h.os,h.tape,h.output,h.size,fun k hk hn=>h.block k hk (fun e=>hn e.symm)⟩
def Qbo (S:Nat→Prop) (w:World):Prop:=∀ k o,S k→w.heap[k]?=some o→o.isCells=true
theorem Qgz {S:Nat→Prop} {w w':World} (h:Chg S w w') (hs:Qbo S w) (B:Nat):KeepsFrom B w w' :=
 ⟨h.size,fun k o _ hk ho=>(h.block k (Array.getElem?_eq_some_iff.1 hk).1 (fun e=>by have:=hs k o e hk; rw [ho] at this; cases this)).trans hk⟩
theorem Blk.onCells {w:World} {g:Nat} {t:TypeId} {cs:Array Value} (h:Blk w g t cs):Qbo (fun k=>k=g) w:=fun k o hk ho=>by
 subst hk;have h:w.heap[k]?=some (.cells cs t):=h;rw [ho] at h;injection h with h;subst h
 rfl
theorem Row.onCells {w:World} {e:TypeId} {size n:Nat} {v:Value} {xs:List Value} (h:Row w e size v n xs):Qbo (fun k=>v.ownBlock=some k) w:=fun k o hk ho=>by
 rcases h.2 with ⟨rfl,_⟩|⟨g,off,cap,cur,fz,rfl,hg,_⟩
 ·simp [Value.ownBlock] at hk
 ·simp [Value.ownBlock] at hk;subst hk;rw [ho] at hg;injection hg with hg;subst hg
  rfl
theorem Blk.grown {w w':World} {g:Nat} {t:TypeId} {cs:Array Value} (h:Blk w g t cs) {row:Option Nat} (hg:w.grownBy w' row) (hr:∀ r,row=some r→∃ o:Obj,w.heap[r]?=some o∧o.isCells=false):Blk w' g t cs :=
 h.chg (VY hg) (fun e=>by
  obtain ⟨o,ho,hn⟩:=hr g e
  have:=h.onCells g o rfl ho
  rw [hn] at this
  cases this)
def WLI (F:Fence) (n:Nat) (P:Program) (N:Nat) (ds:List Deferred) (ops:Array Oper) (Q:Post) (os:List Oper) (l:Env) (w:World):Prop:=∀ a,Rep N ds l a→wpListIn F n P ops (X3 N ds Q) os a w
section
variable {F:Fence} {n:Nat} {P:Program} {N:Nat} {ds:List Deferred} {Q:Post} {l:Env} {w w':World} {ops:Array Oper} {rest:List Oper} {op:Op} {ty:TypeId} {pos:String} {aft:Array Edge} {d:Nat} {v:Value} {id:Nat}
def Wide (F:Fence):Prop:=∀ f,F.fn f
theorem VF (ro:Option Nat) (ρ:Operand→Value) (o:Oper) (h:∀ c,o.op≠.defer c):Oper.semAt ro ρ o=execOp ρ o:=by
 cases ro with
 | none=>rfl
 | some l=>exact Oper.semAt_some l ρ o h
theorem WIn (h:Q .normal l w):WLI F n P N ds ops Q [] l w:=fun _ ha=>⟨_,ha,h⟩
theorem stI (hF:Wide F) (hop:∀ c,op≠.defer c) (hx:X P l op ty w v w') (hd:Nat.blt d N=true) (h:WLI F n P N ds ops Q rest ((d,v)::l) w'):WLI F n P N ds ops Q (⟨some d,op,ty,pos,aft,none⟩::rest) l w:=by
 intro a ha
 refine wpListIn_plain Z fun K hK=>⟨fun f _=>hF f,?_⟩
 rw [VF _ _ _ hop]
 have:(execOp a.eval ⟨some d,op,ty,pos,aft,none⟩).run P w=.ok (.value v) w':=hx _ ha.knows
 rw [this]
 exact hK _ _<|h _<|ha.put hd v
theorem Qwl {os:List Oper} (h:WLI Fence.wide n P N ds os.toArray Q os l w):W P N ds Q (.region id os.toArray false) l w:=fun a ha=>wpIn_wide.1 (wpIn_region_lit (h a ha))
theorem Qtv {x:Operand} {args:List Operand} {ats:Array TypeId} {lp:Nat} (vs:List Value) (hF:Wide F) (hdp:F.depth.isSome=false) (hx:ev l x=some (.func (.yield lp) #[] #[])) (hvs:evs l args=some vs) (hd:Nat.blt d N=true)
  (hy:YieldAt F (n-1) P lp vs.toArray w fun e w'=>match e with|.returned v=>WLI F n P N ds ops Q rest ((d,v)::l) w'|_=>False) :
  WLI F n P N ds ops Q (⟨some d,.call { callee:=.value x,args:=args.toArray,argTypes:=ats },ty,pos,aft,none⟩::rest) l w:=by
 intro a ha
 refine wpListIn_plain Z fun K hK=>⟨fun f _=>hF f,?_⟩
 rw [VF _ _ _ (fun c h=>by cases h)];have hx':=ha.knows _ _ hx;have hvs':=Qia ha.knows hvs;have e1:List.map (fun x=>a.eval x) args=vs:=hvs';obtain ⟨fn,tmps,assign,body,hr,hR⟩:=hy
 have e2:(execOp a.eval ⟨some d,.call { callee:=.value x,args:=args.toArray,argTypes:=ats },ty,pos,aft,none⟩).run P w=.ok (.round lp fn tmps assign body) w:=by
  unfold execOp;simp only [resolve,invoke,hx'];simp [Deferred.ofValue,e1,hr]
 rw [e2,Oper.uponIn_round];refine ⟨fun h=>(by rw [hdp] at h; cases h),RoundIn.mono hR (fun e w' h=>?_)⟩
 cases e with
 | returned v=>exact hK _ _ (h _ (ha.put hd v))
 | panicked c=>exact h.elim
 | outgrown=>exact h.elim
end
def YB (os:List Oper):Bool:=os.all fun o=>match o.op with|.defer _=>false|_=>true
theorem Qbw {P:Program} {o:Oper} {a:Act} {next next':Act→World→Prop} {Q:Exit→Act→World→Prop} {lp n:Nat} (hx:∀ a w,next a w→next' a w):∀ {r:Result Next},o.upon P a next Q r→o.uponIn (Fence.wide.inRound lp) n P a next' Q r
 | .ok (.value _) _,h=>hx _ _ h
 | .ok .skip _,h=>hx _ _ h
 | .ok (.defer _) _,h=>hx _ _ h
 | .ok (.enter _ _) _,h=>⟨fun h=>(by cases h),CallsIn.inRound lp (callsIn_wide.2 (Calls.mono h (fun e w h=>by cases e with|returned v=>exact hx _ _ h|panicked c=>exact h|outgrown=>exact h)))⟩
 | .ok (.row _ _) _,h=>⟨fun h=>(by cases h),fun c cs _=>(let ⟨v,w',r,s⟩:=h c cs; ⟨v,w',hx _ _ r,stepsIn_wide.2 s⟩)⟩
 | .ok (.round ..) _,h=>h.elim
 | .halt (.panic _) _,h=>h
theorem YP {P:Program} {ops:Array Oper} {Q:Exit→Act→World→Prop} {lp n:Nat} (hQ:¬LetsOut Q):∀ (os:List Oper) {a:Act} {w:World},YB os=true→wpList P ops Q os a w→wpListIn (Fence.wide.inRound lp) n P ops Q os a w
 | [],_,_,_,h=>h
 | o::rest,a,w,hn,h=>by
  have hn1:∀ c,o.op≠.defer c:=fun c hc=>by
   simp only [YB,List.all_cons,hc,Bool.false_and] at hn
   cases hn
  have hn2:YB rest=true:=by
   simp only [YB,List.all_cons,Bool.and_eq_true] at hn;exact hn.2
  unfold wpList at h;unfold wpListIn
  split at h
  ·rename_i hw
   rw [if_pos hw];refine ⟨fun f _=>trivial,?_⟩;rw [VF _ _ _ hn1];have h':o.upon P a (wpList P ops Q rest) Q ((execOp a.eval o).run P w):=h.resolve_right (fun h=>hQ h.2);exact Qbw (fun a' w' h''=>YP hQ rest hn2 h'') h'
  ·rename_i hw
   rw [if_neg hw];exact ⟨fun f _=>trivial,YP hQ rest hn2 h⟩
theorem Qwo {P:Program} {N:Nat} {ds:List Deferred} {Q:Post} {l:Env} {w:World} {ops:Array Oper} {os:List Oper} {lp n:Nat} (hn:YB os=true) (hQ:∀ l w,¬Q .outgrown l w) (h:WL P N ds ops Q os l w):WLI (Fence.wide.inRound lp) n P N ds ops Q os l w :=
 fun a ha=>YP (fun hl=>(by obtain ⟨_,w',l',_,h⟩:=hl; exact hQ l' w' h)) os hn (h a ha)
theorem outI {F:Fence} {n:Nat} {P:Program} {N:Nat} {ds:List Deferred} {Q:Post} {Q':Exit→Act→World→Prop} {l:Env} {w:World} {a:Act} {os:List Oper} {id:Nat} (h:WLI F n P N ds os.toArray Q os l w) (ha:Rep N ds l a)
  (hq:∀ e l a w,Rep N ds l a→Q e l w→Q' e a w):(Code.region id os.toArray false).wpIn F n P Q' a w :=
 wpIn_mono (wpIn_region_lit (h a ha)) (fun e a w hx=>by obtain ⟨l,hr,hx⟩:=hx; exact hq e l a w hr hx)
theorem retM {P:Program} {n:Nat} {fn:Func} {R:Ending→World→Prop} {N D:Nat} {l:Env} {a:Act} {w:World} (hr:Rep N [{ target:=.collected D,args:=#[] }] l a) (hD:w.heap[D]?=some (.deferred (some []))) (h:JI P fn R .ret l (w.putObj D (.deferred none))) :
  bodyPostM Fence.wide n P fn R .ret a w:=by
 obtain ⟨v,h1,h2⟩:=h
 show LeavesInM Fence.wide n P fn a.tmps R a.defers .returning w
 rw [hr.defers];exact ⟨by simp,.inl ⟨D,_,Z,run_takeDeferred hD,v,h1 _ hr.val,h2⟩⟩
end
end Go.Proofs.YtgiccohjijhfkaaGreatDoor
