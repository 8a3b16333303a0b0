/- Part 6. -/
import Derived.Scope
import Derived.Laws.IdiomStrings
import Derived.Test.YtgiccohjijhfkaaGreatDoorPackPlaysP5
set_option maxRecDepth 100000
set_option maxHeartbeats 4000000
namespace Go.Proofs.YtgiccohjijhfkaaGreatDoor
section
open Go.RowKit
section
variable {P:Program} {a:Act} {w:World} {Q:Exit→Act→World→Prop}
def Qvc (J:Nat→Act→World→Prop) (Q:Exit→Act→World→Prop):Exit→Act→World→Prop
  | .goto lb,a,w=>J lb a w
  | e,a,w=>Q e a w
theorem Qek {c:Code} (J:Nat→Act→World→Prop) (μ:Nat→Act→World→Nat) (rest:Nat→Code) (hf:∀ lb a w,J lb a w→findLabel c lb=some (rest lb))
  (first:c.wp P (Qvc J Q) a w)
  (pass:∀ lb a w,J lb a w→(rest lb).wp P (Qvc (fun lb' a' w'=>J lb' a' w'∧μ lb' a' w' < μ lb a w) Q) a w):(Code.scope c).wp P Q a w:=by
 intro b k cs
 have key:∀ n lb a w,μ lb a w=n→J lb a w→∃ e a' w',Q e a' w'∧Arrives P (lone (b.at a (.code (rest lb)::.inScope c::k)) cs w) b k cs e a' w':=by
  intro n
  induction n using Nat.strongRecOn with
  | _ n ih =>
   intro lb a w hn hJ;obtain ⟨e,a₁,w₁,hq,harr⟩:=pass lb a w hJ b (.inScope c::k) cs
   cases e with
   | normal=>exact ⟨.normal,a₁,w₁,hq,Steps.trans harr (.one step_inScope)⟩
   | exit id=>exact ⟨.exit id,a₁,w₁,hq,fun k' hk=>harr k' (by simp [exitTo,hk])⟩
   | goto l' =>
    obtain ⟨hJ',hlt⟩:=hq
    have hg:gotoIn l' (.inScope c::k)=some (.code (rest l')::.inScope c::k):=by simp [gotoIn,hf l' _ _ hJ']
    obtain ⟨e₂,a₂,w₂,hq₂,harr₂⟩:=ih _ Qb l' a₁ w₁ rfl hJ';exact ⟨e₂,a₂,w₂,hq₂,.of_steps (harr _ hg) harr₂⟩
   | ret=>exact ⟨_,a₁,w₁,hq,harr⟩
   | panic ch=>exact ⟨_,a₁,w₁,hq,harr⟩
   | outgrown=>exact ⟨_,a₁,w₁,hq,harr⟩
 obtain ⟨e,a₁,w₁,hq,harr⟩:=first b (.inScope c::k) cs
 cases e with
 | normal=>exact ⟨.normal,a₁,w₁,hq,.head step_scope (Steps.trans harr (.one step_inScope))⟩
 | exit id=>exact ⟨.exit id,a₁,w₁,hq,fun k' hk=>.head step_scope (harr k' (by simp [exitTo,hk]))⟩
 | goto l' =>
  have hg:gotoIn l' (.inScope c::k)=some (.code (rest l')::.inScope c::k):=by simp [gotoIn,hf l' _ _ hq]
  obtain ⟨e₂,a₂,w₂,hq₂,harr₂⟩:=key _ l' a₁ w₁ rfl hq;exact ⟨e₂,a₂,w₂,hq₂,.of_steps (.head step_scope (harr _ hg)) harr₂⟩
 | ret=>exact ⟨_,a₁,w₁,hq,.of_steps (.one step_scope) harr⟩
 | panic ch=>exact ⟨_,a₁,w₁,hq,.of_steps (.one step_scope) harr⟩
 | outgrown=>exact ⟨_,a₁,w₁,hq,.of_steps (.one step_scope) harr⟩
end
section
variable {P:Program} {N:Nat} {ds:List Deferred} {Q:Post} {l r:Env} {w:World}
def noJ (Q:Post):Post
  | .goto _,_,_=>False
  | e,l,w=>Q e l w
def scQ (c:Code) (P:Program) (N:Nat) (ds:List Deferred) (lb:Nat) (A:Env→World→Prop) (Q:Post):Post
  | .goto i,l,w=>(i=lb∧A l w)∨(i≠lb∧∃ rest,findLabel c i=some rest∧W P N ds (noJ Q) rest l w)
  | e,l,w=>Q e l w
theorem scA {c:Code} {lb:Nat} {A:Env→World→Prop} (h:A l w):scQ c P N ds lb A Q (.goto lb) l w:=.inl ⟨rfl,h⟩
theorem scO {c rest:Code} {lb i:Nat} {A:Env→World→Prop} (hi:Nat.beq i lb=false) (hf:findLabel c i=some rest) (h:W P N ds (noJ Q) rest l w):scQ c P N ds lb A Q (.goto i) l w :=
 .inr ⟨(fun e=>by subst e; rw [Nat.beq_refl] at hi; cases hi),rest,hf,h⟩
theorem scR {c:Code} {lb:Nat} {A:Env→World→Prop} (h:Q .ret l w):scQ c P N ds lb A Q .ret l w:=h
theorem njR (h:Q .ret l w):noJ Q .ret l w:=h
theorem XJ {i:Nat} (h:Q (.goto i) l w):W P N ds Q (.goto i) l w:=fun _ ha=>wp_goto ⟨_,ha,h⟩
theorem Qsr {i:Nat} {y:Code} (h:W P N ds Q y l w):W P N ds Q (.seq (.label i) y) l w:=Qe (fun _ ha=>wp_label ⟨_,ha,h⟩)
theorem V9 {y:Code} (h:W P N ds Q y l w):W P N ds Q (.seq .skip y) l w:=Qe (fun _ ha=>wp_skip ⟨_,ha,h⟩)
theorem Qwk {c:Code} (h:W P N ds (noJ Q) c l w):W P N ds Q (.scope c) l w:=fun a ha=>wp_scope_straight (Code.wp_mono (fun e a w hh=>by
 obtain ⟨l',hr,hh⟩:=hh
 cases e with
 | goto i=>exact hh.elim
 | _=>exact ⟨l',hr,hh⟩) (h a ha))
theorem W_mono {Q':Post} {c:Code} (h:W P N ds Q c l w) (hq:∀ e l w,Q e l w→Q' e l w):W P N ds Q' c l w:=fun a ha=>Code.wp_mono (fun e a w hh=>by
 obtain ⟨l',hr,hh⟩:=hh
 exact ⟨l',hr,hq e l' w hh⟩)<|h a ha
theorem W_scope {c rest:Code} (lb:Nat) (I:Nat→Env→World→Prop) (hf:findLabel c lb=some (.seq .skip rest))
  (pass:∀ n l w,I n l w→W P N ds (scQ c P N ds lb (Qxq I n) Q) rest l w)
  (first:(∀ n l w,I n l w→W P N ds (scQ c P N ds lb (fun l w=>∃ n r,I n r w∧sub r l) Q) rest l w)→W P N ds (scQ c P N ds lb (fun l w=>∃ n r,I n r w∧sub r l) Q) c l w):W P N ds Q (.scope c) l w:=by
 intro a ha
 obtain ⟨J,hJ⟩:∃ J:Nat→Act→World→Prop,J=fun i a w=>(i=lb∧∃ n r,Rep N ds r a∧I n r w)∨(i≠lb∧∃ rest',findLabel c i=some rest'∧rest'.wp P (X3 N ds (noJ Q)) a w):=⟨_,rfl⟩
 have hleast:∀ a w,J lb a w→∃ n,(∃ r,Rep N ds r a∧I n r w)∧∀ m,(∃ r,Rep N ds r a∧I m r w)→n≤m:=fun a w h=>by
  rw [hJ] at h
  rcases h with ⟨_,n,r,h1,h2⟩|⟨h,_⟩
  ·have key:∀ n,(∃ r,Rep N ds r a∧I n r w)→∃ k,(∃ r,Rep N ds r a∧I k r w)∧∀ m,(∃ r,Rep N ds r a∧I m r w)→k≤m:=by
    intro n
    induction n using Nat.strongRecOn with
    | _ n ih =>
     intro hn
     by_cases hx:∃ m,m<n∧∃ r,Rep N ds r a∧I m r w
     ·obtain ⟨m,hm,hr⟩:=hx;exact ih m hm hr
     ·exact ⟨n,hn,fun m hr=>Nat.le_of_not_lt fun h=>hx ⟨m,h,hr⟩⟩
   exact key n ⟨r,h1,h2⟩
  ·exact absurd Z h
 classical
 refine Qek J (fun i a w=>if h:i=lb∧J lb a w then (hleast a w h.2).choose+1 else 0) (fun i=>(findLabel c i).getD .skip) (fun i a w h=>?_) ?_ (fun i a w h=>?_)
 ·rw [hJ] at h
  rcases h with ⟨rfl,_⟩|⟨_,rest',h,_⟩
  ·rw [hf]; rfl
  ·rw [h]; rfl
 ·refine Code.wp_mono (fun e a w hq=>?_) (first (fun n l w hI=>W_mono (pass n l w hI) (fun e l w hh=>by
   cases e with
   | goto i =>
    rcases hh with ⟨h1,m,r,_,h2,h3⟩|hh
    ·exact .inl ⟨h1,m,r,h2,h3⟩
    ·exact .inr hh
   | _=>exact hh)) a ha)
  obtain ⟨l',hr,hq⟩:=hq
  cases e with
  | goto i =>
   show J i a w
   rw [hJ]
   rcases hq with ⟨h1,n,r,h2,h3⟩|⟨h1,rest',h2,h3⟩
   ·exact .inl ⟨h1,n,r,hr.sub h3,h2⟩
   ·exact .inr ⟨h1,rest',h2,h3 a hr⟩
  | _=>exact ⟨l',hr,hq⟩
 ·by_cases hi:i=lb
  ·subst hi
   obtain ⟨n,hn⟩:∃ n,n=(hleast a w h).choose:=⟨_,rfl⟩
   have hspec:=(hleast a w h).choose_spec;rw [← hn] at hspec;obtain ⟨⟨r,hr,hI⟩,hmin⟩:=hspec;rw [show (findLabel c i).getD .skip=.seq .skip _ by rw [hf]; rfl]
   refine wp_seq<|wp_skip<|Code.wp_mono (fun e a' w' hq=>?_)<|pass n r w hI a hr
   obtain ⟨l',hr',hq⟩:=hq
   cases e with
   | goto j =>
    rcases hq with ⟨rfl,m,r',hm,hI',hs⟩|⟨h1,rest',h2,h3⟩
    ·have hJ':J j a' w':=by rw [hJ]; exact .inl ⟨rfl,m,r',hr'.sub hs,hI'⟩
     refine ⟨hJ',?_⟩;rw [dif_pos ⟨rfl,hJ'⟩,dif_pos ⟨rfl,h⟩,← hn]
     have:=(hleast a' w' hJ').choose_spec.2 m ⟨r',hr'.sub hs,hI'⟩
     omega
    ·have hJ':J j a' w':=by rw [hJ]; exact .inr ⟨h1,rest',h2,h3 a' hr'⟩
     refine ⟨hJ',?_⟩;rw [dif_neg (fun e=>h1 e.1),dif_pos ⟨rfl,h⟩]
     omega
   | _=>exact ⟨l',hr',hq⟩
  ·have h':=h;rw [hJ] at h'
   rcases h' with ⟨e,_⟩|⟨_,rest',h2,h3⟩
   ·exact absurd e hi
   ·rw [show (findLabel c i).getD .skip=rest' by rw [h2]; rfl];refine Code.wp_mono (fun e a' w' hq=>?_) h3;obtain ⟨l',hr',hq⟩:=hq
    cases e with
    | goto j=>exact hq.elim
    | _=>exact ⟨l',hr',hq⟩
end
end
section
open Go.RowKit
def leN:List UInt8→Nat
  | []=>0
  | b::l=>b.toNat+256*leN l
theorem leN_lt:∀ l:List UInt8,leN l<2 ^ (8*l.length)
 | []=>by simp [leN]
 | b::l=>by
  have h1:=leN_lt l;have h2:=b.toNat_lt;rw [List.length_cons,show 8*(l.length+1)=8*l.length+8 by omega,Nat.pow_add];simp only [leN]
  omega
theorem leN_snoc:∀ (l:List UInt8) (b:UInt8),leN (l++[b])=leN l+b.toNat*2 ^ (8*l.length)
 | [],b=>by simp [leN]
 | a::l,b=>by
  have h:=leN_snoc l b;simp only [List.cons_append,leN,h,List.length_cons];rw [show 8*(l.length+1)=8*l.length+8 by omega,Nat.pow_add]
  generalize 2 ^ (8*l.length)=q
  have h5:b.toNat*(q*2 ^ 8)=256*(b.toNat*q):=by rw [Nat.mul_comm q (2 ^ 8),Nat.mul_left_comm]
  rw [h5]
  omega
def Jr (s:List UInt8) (at_:Nat) (e:Int) (n:Nat):List UInt8×Nat×Int :=
  if e≠0 then ([],at_,e) else if s.length-at_<n then ([],at_,10) else ((s.drop at_).take n,at_+n,0)
theorem Qer (s:List UInt8) (at_:Nat) (er:Int) (n:Nat):(Jr s at_ er n).1.length≤n:=by
 unfold Jr
 split
 ·simp
 ·split
  ·simp
  ·simp only [List.length_take]
   omega
def uvM:Nat→Nat→List UInt8→Nat×Nat×Int
  | _,_,[]=>(0,0,10)
  | i,x,b::l=>if (i=9∧1<b.toNat)∨(0<i∧b.toNat=0) then (0,0,12) else if b.toNat<128 then (x+b.toNat*2 ^ (7*i),i+1,0) else uvM (i+1) (x+(b.toNat-128)*2 ^ (7*i)) l
def X2 (s:List UInt8) (at_:Nat) (e:Int):Nat×Nat×Int :=
  if e≠0 then (0,at_,e) else if (uvM 0 0 (s.drop at_)).2.2=0 then ((uvM 0 0 (s.drop at_)).1,at_+(uvM 0 0 (s.drop at_)).2.1,0) else (0,at_,(uvM 0 0 (s.drop at_)).2.2)
def JP (s:List UInt8) (at_:Nat) (most:Nat):List UInt8×Nat×Int :=
  if (X2 s at_ 0).2.2≠0 then ([],(X2 s at_ 0).2.1,(X2 s at_ 0).2.2) else if most<(X2 s at_ 0).1 then ([],at_,12) else if s.length-(X2 s at_ 0).2.1<(X2 s at_ 0).1 then ([],at_,10) else Jr s (X2 s at_ 0).2.1 0 (X2 s at_ 0).1
theorem uvM_len:∀ (l:List UInt8) (i x:Nat),(uvM i x l).2.1≤i+l.length
 | [],_,_=>Nat.zero_le _
 | b::l,i,x=>by
  unfold uvM
  split
  ·exact Nat.zero_le _
  ·split
   ·simp only [List.length_cons]; omega
   ·have:=uvM_len l (i+1) (x+(b.toNat-128)*2 ^ (7*i))
    simp only [List.length_cons]
    omega
theorem Qmf {s:List UInt8} {at_:Nat} {e:Int} (h:at_≤s.length):(X2 s at_ e).2.1≤s.length:=by
 unfold X2
 split
 ·exact h
 ·split
  ·have:=uvM_len (s.drop at_) 0 0
   rw [List.length_drop] at this;simp only
   omega
  ·exact h
theorem take1 {s tl:List UInt8} {a ta:Nat} {te:Int} (h:Jr s a 0 1=(tl,ta,te)):(te=10∧s.drop a=[]∧ta=a∧tl=[])∨(te=0∧∃ b l,s.drop a=b::l∧tl=[b]∧ta=a+1∧a<s.length):=by
 unfold Jr at h;rw [if_neg Q0] at h
 split at h
 ·rename_i hl
  injection h with h1 h2;injection h2 with h2 h3;exact .inl ⟨h3.symm,List.drop_of_length_le Qb,h2.symm,h1.symm⟩
 ·rename_i hl
  injection h with h1 h2;injection h2 with h2 h3
  have hlt:a<s.length:=by omega
  refine .inr ⟨h3.symm,s[a],s.drop (a+1),List.drop_eq_getElem_cons hlt,?_,h2.symm,hlt⟩;rw [← h1,List.drop_eq_getElem_cons hlt]
  rfl
theorem Qim (b:UInt8):bits .and .u8 (b.toNat:Int) 127=((b.toNat%128:Nat):Int):=by
 have h:=and_u8 b 127
 have e:(b &&& 127).toNat=b.toNat%128:=by
  rw [UInt8.toNat_and];exact Nat.and_two_pow_sub_one_eq_mod b.toNat 7
 rw [e] at h;exact h
theorem Uw {i b:Nat} (hi:i≤9) (hb:b<256) (h:¬(i=9∧1<b)):b%128*2 ^ (7*i)+2 ^ (7*i)≤18446744073709551616:=by
 have:i=0∨i=1∨i=2∨i=3∨i=4∨i=5∨i=6∨i=7∨i=8∨i=9:=by omega
 rcases this with rfl|rfl|rfl|rfl|rfl|rfl|rfl|rfl|rfl|rfl
 all_goals (simp only [Nat.reduceMul,Nat.reducePow]; omega)
theorem XP {x c i:Nat} (hx:x<2 ^ (7*i)) (hc:c≤127):x+c*2 ^ (7*i)<2 ^ (7*(i+1)):=by
 rw [show 7*(i+1)=7*i+7 by omega,Nat.pow_add]
 have:=Nat.mul_le_mul_right (2 ^ (7*i)) hc
 omega
theorem Xr (a b k:Nat) (ha:a<2 ^ k) (hb:a+b*2 ^ k<18446744073709551616):bits .or .u64 (a:Int) ((b:Int)*((2 ^ k:Nat):Int))=((a+b*2 ^ k:Nat):Int):=by
 have e:(b:Int)*((2 ^ k:Nat):Int)=((b*2 ^ k:Nat):Int):=by rw [Int.natCast_mul]
 have h1:b*2 ^ k+a=b*2 ^ k ||| a:=by
  have:=Nat.shiftLeft_add_eq_or_of_lt (i:=k) ha b
  rwa [Nat.shiftLeft_eq] at this
 rw [e]
 show IntKind.u64.wrap ((BitVec.ofInt 64 (a:Int) ||| BitVec.ofInt 64 ((b*2 ^ k:Nat):Int)).toNat:Int)=_
 rw [BitVec.ofInt_natCast,BitVec.ofInt_natCast,BitVec.toNat_or,BitVec.toNat_ofNat,BitVec.toNat_ofNat,Nat.mod_eq_of_lt Qb,Nat.mod_eq_of_lt Qb,Nat.or_comm,← h1,Nat.add_comm];exact IntWalk.u64_in _ Qb
section
variable {P:Program} {N:Nat} {ds:List Deferred} {Q:Post} {l:Env} {w:World} {ops:Array Oper} {rest:List Oper} {x:Operand} {ty src dst e:TypeId} {pos:String} {aft:Array Edge} {d:Nat} {s:List UInt8}
theorem scb (hx:ev l x=some (Qv s)) (hs:P.underlying src=some .string) (hdd:P.underlying dst=some (.slice e)) (he:P.underlying e=some (.int .u8)) (hl:s.length≤1099511627776) (hd:Nat.blt d N=true)
  (h:∀ g c w',Reads w' 1 (.slice (some ⟨g,0,none⟩) s.length c) s.length (s.map bv)→w.heap.size≤g→g<w'.heap.size→Below w.heap.size w w'→WL P N ds ops Q rest ((d,.slice (some ⟨g,0,none⟩) s.length c)::l) w') :
  WL P N ds ops Q (⟨some d,.convert src dst x,ty,pos,aft,none⟩::rest) l w:=by
 have hr:=run_bytes_of_string (P:=P) w src dst e ⟨s.toArray⟩ hs hdd he
 have hz:(⟨s.toArray⟩:ByteArray).size=s.length:=by simp [ByteArray.size]
 rw [hz] at hr;have hge:=grownCap_ge w s.length 0 e;have hle:=grownCap_le_maxLen w s.length 0 e (by simp only [maxLen]; omega)
 obtain ⟨C,hC⟩:∃ C,bytesRow ⟨s.toArray⟩ (grownCap w s.length 0 e)=C:=⟨_,rfl⟩
 rw [hC] at hr;have hb:Below w.heap.size w (w.drew.alloc (.cells C e (C.size,C.size+1))):=(JC X4).alloc (Nat.le_refl _) _
 have hR:Reads (w.drew.alloc (.cells C e (C.size,C.size+1))) 1 (.slice (some ⟨w.heap.size,0,none⟩) s.length (grownCap w s.length 0 e)) s.length (s.map bv):=by
  refine ⟨by simp,_,_,Z,hge,hle,fun _=>⟨w.heap.size,0,Z,by simp [World.alloc],fun j u hu=>?_⟩⟩
  have h1:(w.drew.alloc (.cells C e (C.size,C.size+1))).heap[w.heap.size]?=some (.cells C e (C.size,C.size+1)):=by show (w.heap.push _)[w.heap.size]?=_; simp
  simp only [World.cell?,h1,Nat.zero_add];rw [← hC];unfold bytesRow;have hj:=(List.getElem?_eq_some_iff.1 hu).1;rw [List.length_map] at hj;rw [Array.getElem?_append_left (by simpa using hj)];simp at hu ⊢;exact hu
 refine st (fun ρ hρ=>?_) hd<|h w.heap.size _ _ hR (Nat.le_refl _) (by simp [World.alloc]) hb
 unfold execOp;simp only [hρ _ _ hx,Sem.run_bind,Qv,hr,Result.andThen_ok,Sem.run_pure]
end
section
variable {l:Env} {x:Operand} {w:World} {t' ty:TypeId} {p:Option Addr}
theorem nilEqNr (w:World):(binOp .eql 202 (.pointer none) (.pointer none)).run Tryz.prog w=.ok (.bool true) w:=by kernel_rfl
theorem nilEqPr (a:Addr) (w:World):(binOp .eql 202 (.pointer (some a)) (.pointer none)).run Tryz.prog w=.ok (.bool false) w:=by kernel_rfl
theorem XI (hx:ev l x=some (.pointer p)):X Tryz.prog l (.binOp .eql 202 x (.const (.pointer none)) t') ty w (.bool p.isNone) w :=
 JJ hx rfl ZM (by cases p with|none=>exact nilEqNr w|some a=>exact nilEqPr a w)
end
theorem brd (s:List UInt8) (w:World):(Instr.build 235 #[(0,Qv s)]).run Tryz.prog w=.ok (.agg #[Qv s,.int .i64 0,.int .i64 0]) w:=by kernel_rfl
theorem Qqm (s:List UInt8) (w:World):Calls Tryz.prog 138 #[Qv s] w fun e w'=>∃ g,e=.returned (.pointer (some ⟨g,0,none⟩))∧Blk w' g 235 #[Qv s,.int .i64 0,.int .i64 0]∧w.heap.size≤g∧g<w'.heap.size∧Below w.heap.size w w':=by
 refine Qj (args:=[Qv s]) 6 Tryz.func138 Z Z Z<|Qt [(0,Qv s)] ?_ ⟨Z,tvA⟩
 have bw:=Below.refl w.heap.size w
 refine Qa<|sa Z Z<|Wn<|tN<|Qa<|sm Z Z<|st (Ja Z (brd _ _)) Z<|J1 Z Z (fun g5 w1 hB5 hg5 hb hl5=>?_)
 replace bw:=Ql bw hb;have zz1:=hb.size;clear hb
 refine sa Z Z<|Wn<|tN<|Qg ?_
 exact (rT Z Z ⟨g5,Z,hB5,hg5,hl5,bw⟩).1
section
variable (g:Nat) (s:List UInt8) (at_:Nat) (er:Int) (w:World) (hB:Blk w g 235 #[Qv s,.int .i64 at_,.int .i64 er])
include hB
theorem Err_any:Calls Tryz.prog 140 #[.pointer (some ⟨g,0,none⟩)] w fun e w'=>e=.returned (.int .i64 er)∧w=w':=by
 refine Qj (args:=[.pointer (some ⟨g,0,none⟩)]) 9 fz140 Z Z Z<|Qt [(0,.pointer (some ⟨g,0,none⟩))] ?_ ⟨Z,tvA⟩
 refine Qa<|sa Z Z<|Wn<|tN<|Qe<|Qa<|sm Z Z<|st (XI Z) Z<|Wn<|tN<|QX Z (Z)<|Qf<|tN<|Qa<|sm Z Z<|st (Qc Z) Z<|st (Qk K9 Z) Z<|st (Qi Z hB uz24 Z Z) Z<|sa Z Z<|Wn<|tN<|Qg ?_
 exact (rT Z Z ⟨Z,Z⟩).1
theorem At_any:Calls Tryz.prog 142 #[.pointer (some ⟨g,0,none⟩)] w fun e w'=>e=.returned (.int .i64 at_)∧w=w':=by
 refine Qj (args:=[.pointer (some ⟨g,0,none⟩)]) 9 Tryz.func142 Z Z Z<|Qt [(0,.pointer (some ⟨g,0,none⟩))] ?_ ⟨Z,tvA⟩
 refine Qa<|sa Z Z<|Wn<|tN<|Qe<|Qa<|sm Z Z<|st (XI Z) Z<|Wn<|tN<|QX Z (Z)<|Qf<|tN<|Qa<|sm Z Z<|st (Qc Z) Z<|st (Qk Ya Z) Z<|st (Qi Z hB uz3 Z Z) Z<|sa Z Z<|Wn<|tN<|Qg ?_
 exact (rT Z Z ⟨Z,Z⟩).1
theorem UG (e2:Int) (at2:Nat):Calls Tryz.prog 172 #[.pointer (some ⟨g,0,none⟩),.int .i64 e2,.int .i64 at2] w fun e w'=>e=.returned (.tuple #[])∧Blk w' g 235 #[Qv s,.int .i64 at2,.int .i64 e2]∧Chg (fun k=>k=g) w w':=by
 have hlt:=hB.lt
 refine Qj (args:=[.pointer (some ⟨g,0,none⟩),.int .i64 e2,.int .i64 at2]) 14 fz172 Z Z Z<|Qt [(0,.pointer (some ⟨g,0,none⟩)),(1,.int .i64 e2),(2,.int .i64 at2)] ?_ ⟨Z,Z,Z,tvA⟩
 have hcw:=Chg.refl (fun k=>k=g) w
 refine Qw<|sm Z Z<|sm Z Z<|sm Z Z<|sm Z Z<|st (Qc Z) Z<|st (Qk K9 Z) Z<|KL Z Z hB siz24 Z (by first|decide|simp) (fun w1 bB cC=>?_)
 replace hB:=bB;clear bB;replace hcw:=hcw.next cC KO;have zz1:=cC.size;clear cC
 refine st (Qc Z) Z<|st (Qk Ya Z) Z<|KL Z Z hB siz3 Z (by first|decide|simp) (fun w2 bB cC=>?_)
 replace hB:=bB;clear bB;replace hcw:=hcw.next cC KO;have zz2:=cC.size;clear cC;refine Wn ?_;exact (r0 Z ⟨Z,hB,hcw⟩).2
theorem Qxl (hs:s.length≤1099511627776) (ha:at_≤s.length):Calls Tryz.prog 173 #[.pointer (some ⟨g,0,none⟩)] w fun e w'=>e=.returned (.int .i64 (s.length-at_:Nat))∧Below w.heap.size w w':=by
 refine Qj (args:=[.pointer (some ⟨g,0,none⟩)]) 15 Tryz.func173 Z Z Z<|Qt [(0,.pointer (some ⟨g,0,none⟩))] ?_ ⟨Z,tvA⟩
 have bw:=Below.refl w.heap.size w
 refine Qa<|sa Z Z<|Wn<|tN<|Qe<|Qa<|sm Z Z<|st (XI Z) Z<|Wn<|tN<|QX Z (Z)<|Qf<|tN<|QS (fun G=>Blk G g 235 #[Qv s,.int .i64 at_,.int .i64 er]) [0,1,2,3,4,5,6,7,8,9,10] [Y,Y,Y,Y,Y,Y,Y,Y,Y,Y,Y] Qo Qo (hB.drew) ?_
 obtain ⟨w1,hw_,hb⟩:=QN w;rw [← hw_];clear hw_;have hS:=hb;replace bw:=Ql bw hb;replace hB:=hB.bel hb;have zz1:=hb.size;clear hb
 refine oY Z (fun G U=>(Qd Z)) Z<|oY Z (fun G U=>(Qc Z)) Z<|oY Z (fun G U=>(Qk Qbl Z)) Z<|oY Z (fun G U=>(Qi Z U uz9 Z Z)) Z<|oY Z (fun G U=>(QP Z Z uz9)) Z<|oY Z (fun G U=>(Qd Z)) Z<|oY Z (fun G U=>(Qc Z)) Z<|oY Z (fun G U=>(Qk Ya Z)) Z<|oY Z (fun G U=>(Qi Z U uz3 Z Z)) Z<|oY Z (fun G U=>(JU Z Z Qb)) Z<|oY Z (fun G U=>(Qy Z)) Z<|oN<|nN<|Qg<|(rT Z Z ⟨?_,bw⟩).1
 rw [Int.ofNat_sub ha]
theorem Qji (n:Nat) (hs:s.length≤1099511627776) (ha:at_≤s.length) (hn:n≤1099511627776):Calls Tryz.prog 174 #[.pointer (some ⟨g,0,none⟩),.int .i64 n] w fun e w' =>
  e=.returned (Qv (Jr s at_ er n).1)∧Blk w' g 235 #[Qv s,.int .i64 (Jr s at_ er n).2.1,.int .i64 (Jr s at_ er n).2.2]∧Chg (fun k=>k=g) w w':=by
 have hlt:=hB.lt;unfold Jr
 by_cases he:er≠0
 ·simp only [if_pos he]
  refine Qj (args:=[.pointer (some ⟨g,0,none⟩),.int .i64 n]) 56 fz174 Z Z Z<|Qt [(0,.pointer (some ⟨g,0,none⟩)),(1,.int .i64 n)] ?_ ⟨Z,Z,tvA⟩
  have hcw:=Chg.refl (fun k=>k=g) w
  refine Qa<|sa Z Z<|Wn<|tN<|Qe<|Qp<|Qa<|sm Z Z<|st (XI Z) Z<|sbN Z (Z) Z<|gY Z Z Z<|sm Z Z<|gY Z Z Z<|st (Qc Z) Z<|gY Z Z Z<|st (Qk K9 Z) Z<|gY Z Z Z<|st (Qi Z hB uz24 Z Z) Z<|gY Z Z Z<|st (QC Z Z) Z<|st (Qq Z Z) Z<|sa Z Z<|Wn<|tN<|QO Z (decide_eq_true he)<|Qa<|sa Z Z<|Wn<|tN<|Qg<|bR<|tR ?_
  exact (rT Z Z ⟨Z,hB,hcw⟩).1
 simp only [if_neg he];obtain rfl:er=0:=Classical.byContradiction he
 by_cases hsh:s.length-at_<n
 ·simp only [if_pos hsh]
  refine Qj (args:=[.pointer (some ⟨g,0,none⟩),.int .i64 n]) 56 fz174 Z Z Z<|Qt [(0,.pointer (some ⟨g,0,none⟩)),(1,.int .i64 n)] ?_ ⟨Z,Z,tvA⟩
  have hcw:=Chg.refl (fun k=>k=g) w
  refine Qa<|sa Z Z<|Wn<|tN<|Qe<|Qp<|Qa<|sm Z Z<|st (XI Z) Z<|sbN Z (Z) Z<|gY Z Z Z<|sm Z Z<|gY Z Z Z<|st (Qc Z) Z<|gY Z Z Z<|st (Qk K9 Z) Z<|gY Z Z Z<|st (Qi Z hB uz24 Z Z) Z<|gY Z Z Z<|st (QC Z Z) Z<|st (Qq Z Z) Z<|sa Z Z<|Wn<|tN<|QX Z (Z)<|QS (fun G=>Blk G g 235 #[Qv s,.int .i64 at_,.int .i64 0]) [0,1,2,3,4,5,6,7,8,9,10,11,12] [Y,Y,Y,Y,Y,Y,Y,Y,Y,Y,Y,Y,Y] Qo Qo (hB.drew) ?_
  obtain ⟨w1,hw_,hb⟩:=QN w;rw [← hw_];clear hw_;have hS:=hb;replace hcw:=hcw.then_below hb;replace hB:=hB.bel hb;have zz1:=hb.size;clear hb
  refine oY Z (fun G U=>(Qd Z)) Z<|oY Z (fun G U=>(Qd Z)) Z<|oY Z (fun G U=>(Qc Z)) Z<|oY Z (fun G U=>(Qk Qbl Z)) Z<|oY Z (fun G U=>(Qi Z U uz9 Z Z)) Z<|oY Z (fun G U=>(QP Z Z uz9)) Z<|oY Z (fun G U=>(Qd Z)) Z<|oY Z (fun G U=>(Qc Z)) Z<|oY Z (fun G U=>(Qk Ya Z)) Z<|oY Z (fun G U=>(Qi Z U uz3 Z Z)) Z<|oY Z (fun G U=>(JU Z Z Qb)) Z<|oY Z (fun G U=>(Jg Z Z)) Z<|oY Z (fun G U=>(Qy Z)) Z<|oN<|nN<|QO Z (decide_eq_true Qb)<|Qa<|sm Z Z<|st (Qc Z) Z<|st (Qk K9 Z) Z<|KL Z Z hB siz24 Z (by first|decide|simp) (fun w2 bB cC=>?_)
  replace hB:=bB;clear bB;replace hcw:=hcw.next cC KO;have zz2:=cC.size;clear cC
  refine Wn<|tN<|Qa<|sa Z Z<|Wn<|tN<|Qg<|bR<|tR ?_
  exact (rT Z Z ⟨Z,hB,hcw⟩).1
 simp only [if_neg hsh]
 refine Qj (args:=[.pointer (some ⟨g,0,none⟩),.int .i64 n]) 56 fz174 Z Z Z<|Qt [(0,.pointer (some ⟨g,0,none⟩)),(1,.int .i64 n)] ?_ ⟨Z,Z,tvA⟩
 have hcw:=Chg.refl (fun k=>k=g) w
 refine Qa<|sa Z Z<|Wn<|tN<|Qe<|Qp<|Qa<|sm Z Z<|st (XI Z) Z<|sbN Z (Z) Z<|gY Z Z Z<|sm Z Z<|gY Z Z Z<|st (Qc Z) Z<|gY Z Z Z<|st (Qk K9 Z) Z<|gY Z Z Z<|st (Qi Z hB uz24 Z Z) Z<|gY Z Z Z<|st (QC Z Z) Z<|st (Qq Z Z) Z<|sa Z Z<|Wn<|tN<|QX Z (Z)<|QS (fun G=>Blk G g 235 #[Qv s,.int .i64 at_,.int .i64 0]) [0,1,2,3,4,5,6,7,8,9,10,11,12] [Y,Y,Y,Y,Y,Y,Y,Y,Y,Y,Y,Y,Y] Qo Qo (hB.drew) ?_
 obtain ⟨w1,hw_,hb⟩:=QN w;rw [← hw_];clear hw_;have hS:=hb;replace hcw:=hcw.then_below hb;replace hB:=hB.bel hb;have zz1:=hb.size;clear hb
 refine oY Z (fun G U=>(Qd Z)) Z<|oY Z (fun G U=>(Qd Z)) Z<|oY Z (fun G U=>(Qc Z)) Z<|oY Z (fun G U=>(Qk Qbl Z)) Z<|oY Z (fun G U=>(Qi Z U uz9 Z Z)) Z<|oY Z (fun G U=>(QP Z Z uz9)) Z<|oY Z (fun G U=>(Qd Z)) Z<|oY Z (fun G U=>(Qc Z)) Z<|oY Z (fun G U=>(Qk Ya Z)) Z<|oY Z (fun G U=>(Qi Z U uz3 Z Z)) Z<|oY Z (fun G U=>(JU Z Z Qb)) Z<|oY Z (fun G U=>(Jg Z Z)) Z<|oY Z (fun G U=>(Qy Z)) Z<|oN<|nN<|QX Z (decide_eq_false Qb)<|Qf<|bN<|tN<|QS (fun G=>Blk G g 235 #[Qv s,.int .i64 at_,.int .i64 0]) [0,1,2,3,4,5,6,7,8,9,10,11,12,13,14,15] [Y,Y,Y,Y,Y,Y,Y,Y,Y,Y,Y,Y,Y,Y,Y,Y] Qo Qo (hB.drew) ?_
 obtain ⟨w2,hw_,hb⟩:=QN w1;rw [← hw_];clear hw_;have hS:=hb;replace hcw:=hcw.then_below hb;replace hB:=hB.bel hb;have zz2:=hb.size;clear hb
 refine oY Z (fun G U=>(Qd Z)) Z<|oY Z (fun G U=>(Qc Z)) Z<|oY Z (fun G U=>(Qk Qbl Z)) Z<|oY Z (fun G U=>(Qi Z U uz9 Z Z)) Z<|oY Z (fun G U=>(Qd Z)) Z<|oY Z (fun G U=>(Qc Z)) Z<|oY Z (fun G U=>(Qk Ya Z)) Z<|oY Z (fun G U=>(Qi Z U uz3 Z Z)) Z<|oY Z (fun G U=>(Qd Z)) Z<|oY Z (fun G U=>(Qc Z)) Z<|oY Z (fun G U=>(Qk Ya Z)) Z<|oY Z (fun G U=>(Qi Z U uz3 Z Z)) Z<|oY Z (fun G U=>(Qd Z)) Z<|oY Z (fun G U=>(Qn Z Z Qb)) Z<|oY Z (fun G U=>(Qiq (s:=s) (i:=at_) (j:=at_+n) Z Z Z uz9 Z Qb Qb Qb)) Z<|oY Z (fun G U=>(Qy Z)) Z<|oN<|nN<|Qa<|sm Z Z<|st (Qc Z) Z<|st (Qk Ya Z) Z<|st (Qi Z hB uz3 Z Z) Z<|sm Z Z<|st (Qn Z Z Qb) Z<|st (Qc Z) Z<|st (Qk Ya Z) Z<|KL Z Z hB siz3 Z (by first|decide|simp) (fun w3 bB cC=>?_)
 replace hB:=bB;clear bB;replace hcw:=hcw.next cC KO;have zz3:=cC.size;clear cC
 refine Wn<|tN<|Qa<|sm Z Z<|sa Z Z<|Wn<|tN<|Qg<|(rT Z Z ⟨?_,hB,hcw⟩).1
 rw [List.drop_take,Nat.add_sub_cancel_left]
theorem Qft (n:Nat) (hs:s.length≤1099511627776) (ha:at_≤s.length) (hn:n≤8):Calls Tryz.prog 170 #[.pointer (some ⟨g,0,none⟩),.int .i64 n] w fun e w' =>
  e=.returned (.int .u64 (leN (Jr s at_ er n).1:Nat))∧Blk w' g 235 #[Qv s,.int .i64 (Jr s at_ er n).2.1,.int .i64 (Jr s at_ er n).2.2]∧Chg (fun k=>k=g) w w':=by
 have hlt:=hB.lt
 have htl:(Jr s at_ er n).1.length≤n:=by
  unfold Jr
  split
  ·simp
  ·split
   ·simp
   ·simp only [List.length_take]
    omega
 have hT:=Qji g s at_ er w hB n hs ha Qb
 obtain ⟨t,ht⟩:∃ t,Jr s at_ er n=t:=⟨_,rfl⟩
 obtain ⟨tl,ta,te⟩:=t;rw [ht] at hT htl ⊢;replace htl:tl.length≤n:=htl
 refine Qj (args:=[.pointer (some ⟨g,0,none⟩),.int .i64 n]) 28 Tryz.func170 Z Z Z<|Qt [(0,.pointer (some ⟨g,0,none⟩)),(1,.int .i64 n)] ?_ ⟨Z,Z,tvA⟩
 have hcw:=Chg.refl (fun k=>k=g) w
 refine Qa<|sa Z Z<|Wn<|tN<|Qa<|sa Z Z<|Wn<|tN<|Qe<|Qa<|sm Z Z<|sm Z Z<|sc _ fz174 Z Qo Z Z<|hT.mono ?_
 rintro e_ w1 ⟨rfl,hB1,hX⟩;refine cR ?_;have hn1:=hcw.next hX (fun i hi=>.inl hi);clear hcw;have hcw:=hn1;refine scb (s:=tl) Z uz9 uz114 uz5 Qb Z (fun gv cv w2 hR hgv hgl hb=>?_);have hn1:=hcw.then_below hb;have hn2:=hB1.bel hb;have hzz:=hb.size;clear hcw hB1 hb;have hcw:=hn1;have hB1:=hn2;clear hn1 hn2
 refine st (QT Z Z uz114) Z<|sm Z Z<|Wn<|tN<|Qp<|JG (fun nw3_ lw3_ w3=>∃ i:Nat,nw3_=tl.length-i∧lw3_=([(0,.pointer (some ⟨g,0,none⟩)),(5,.int .u64 (leN (tl.take i):Nat)),(11,.slice (some ⟨gv,0,none⟩) tl.length cv),(12,.int .i64 tl.length),(13,.int .i64 i)]:Env)∧(i≤tl.length)∧(Chg (fun k=>k=g) w w3)∧(Blk w3 g 235 #[Qv s,.int .i64 ta,.int .i64 te])∧(Reads w3 1 (.slice (some ⟨gv,0,none⟩) tl.length cv) tl.length (tl.map bv))) _ ⟨_,⟨0,Z,Z,Nat.zero_le _,hcw,hB1,hR⟩,⟨Z,Z,Z,Z,Z,tvA⟩⟩ ?_
 clear hcw hB1 hR;rintro nw3_ lw3_ w3 ⟨i,rfl,rfl,hi,hcw,hB1,hR⟩
 refine Qa<|st (QJ Z Z) Z<|Wn<|tN<|Qe<|Qx Z (fun h14=>?_) (fun h14=>?_)
 ·replace h14:=Qs h14
  obtain ⟨x,hx⟩:∃ x,tl[i]?=some x:=⟨_,List.getElem?_eq_getElem Qb⟩
  have hux:(tl.map bv)[i]?=some (bv x):=by rw [List.getElem?_map,hx]; rfl
  have hx8:=x.toNat_lt
  have hnx:leN (tl.take (i+1))=leN (tl.take i)+x.toNat*2 ^ (8*i):=by
   rw [QK hx,leN_snoc,List.length_take,Nat.min_eq_left hi]
  have hlt1:=leN_lt (tl.take i);have hlt2:=leN_lt (tl.take (i+1));rw [List.length_take,Nat.min_eq_left hi] at hlt1;rw [List.length_take,Nat.min_eq_left Qb,hnx] at hlt2;have hpw:2 ^ (8*(i+1))≤2 ^ 64:=Nat.pow_le_pow_right Qb Qb;have hbd:leN (tl.take i)+x.toNat*2 ^ (8*i)<18446744073709551616:=Nat.lt_of_lt_of_le hlt2 hpw
  have hmul:(x.toNat:Int)*((2 ^ (8*i):Nat):Int)=((x.toNat*2 ^ (8*i):Nat):Int):=by rw [Int.natCast_mul]
  refine Qf<|tN<|Qe<|Qp<|Qa<|sm Z Z<|st (QA Z Z uz114 siz5 Z Qb) Z<|st (JS Z uz5 Z (by rw [Nat.mul_one]; exact hR.cellAt Qb hux)) Z ?_
  refine sa Z Z<|sa Z Z<|Wn<|tN<|Qw<|sm Z Z<|sm Z Z<|st (QM (m:=(x.toNat:Int)) Z uz5 uz151 (IntWalk.u64_in _ Qb)) Z<|sm Z Z<|st (Kl Z Z Qb) Z<|st (QM (m:=8*(i:Int)) (z:=8*(i:Int)) Z uz3 uz145 (IntWalk.u64_in _ Qb)) Z<|st (Qal (s:=8*i) (q:=((2 ^ (8*i):Nat):Int)) (z:=(x.toNat:Int)*((2 ^ (8*i):Nat):Int)) Z Z Qb (by show 8*(i:Int)≤64; omega) Qb Q0 (by rw [hmul]; exact IntWalk.u64_in _ Qb)) Z ?_
  refine st (Zn Q0 Z Z (Xr _ _ _ hlt1 hbd)) Z ?_
  refine sa Z Z<|Wn<|bN<|tN<|Qw<|st (Qn Z Z Qb) Z<|sm Z Z<|Wn<|tN ⟨_,_,?_,⟨i+1,Z,Z,by omega,hcw,hB1,hR⟩,⟨Z,by rw [hnx]; rfl,Z,Z,Z,tvA⟩⟩
  omega
 ·replace h14:=Qs h14
  obtain rfl:i=tl.length:=by omega
  refine QQ<|tE<|tE<|bH<|tN<|Qa<|sm Z Z<|sa Z Z<|Wn<|tN<|Qg ?_
  rw [List.take_length];exact (rT Z Z ⟨Z,hB1,hcw⟩).1
theorem Qot (hs:s.length≤1099511627776) (ha:at_≤s.length):Calls Tryz.prog 139 #[.pointer (some ⟨g,0,none⟩)] w fun e w' =>
  e=.returned (.int .u8 ((Jr s at_ er 1).1.headD 0).toNat)∧Blk w' g 235 #[Qv s,.int .i64 (Jr s at_ er 1).2.1,.int .i64 (Jr s at_ er 1).2.2]∧Chg (fun k=>k=g) w w':=by
 have hv:IntKind.u8.wrap ((leN (Jr s at_ er 1).1:Nat):Int)=((Jr s at_ er 1).1.headD 0).toNat:=by
  have h1:=Qer s at_ er 1
  generalize (Jr s at_ er 1).1=t at h1 ⊢
  match t,h1 with
  | [],_=>rfl
  | [b],_ =>
   have:=b.toNat_lt
   show IntKind.u8.wrap ((b.toNat+256*0:Nat):Int)=(b.toNat:Int)
   rw [show b.toNat+256*0=b.toNat by omega];exact IntWalk.u8_in _ Qb
 have hT:=Qft g s at_ er w hB 1 hs ha Qb
 refine Qj (args:=[.pointer (some ⟨g,0,none⟩)]) 6 Tryz.func139 Z Z Z<|Qt [(0,.pointer (some ⟨g,0,none⟩))] ?_ ⟨Z,tvA⟩
 refine Qa<|sa Z Z<|Wn<|tN<|Qa<|sm Z Z<|sc _ Tryz.func170 Z Qo Z Z<|hT.mono ?_
 rintro e_ w1 ⟨rfl,hB1,hX⟩
 refine cR<|st (QM Z uz151 uz5 hv) Z<|sa Z Z<|Wn<|tN<|Qg ?_
 exact (rT Z Z ⟨Z,hB1,hX⟩).1
theorem U32_any (hs:s.length≤1099511627776) (ha:at_≤s.length):Calls Tryz.prog 143 #[.pointer (some ⟨g,0,none⟩)] w fun e w' =>
  e=.returned (.int .u32 (leN (Jr s at_ er 4).1:Nat))∧Blk w' g 235 #[Qv s,.int .i64 (Jr s at_ er 4).2.1,.int .i64 (Jr s at_ er 4).2.2]∧Chg (fun k=>k=g) w w':=by
 have hv:IntKind.u32.wrap ((leN (Jr s at_ er 4).1:Nat):Int)=(leN (Jr s at_ er 4).1:Nat):=by
  have h1:=Qer s at_ er 4
  have h2:=leN_lt (Jr s at_ er 4).1;have h3:2 ^ (8*(Jr s at_ er 4).1.length)≤2 ^ 32:=Nat.pow_le_pow_right Qb Qb;exact IntWalk.u32_in _ Qb
 have hT:=Qft g s at_ er w hB 4 hs ha Qb
 refine Qj (args:=[.pointer (some ⟨g,0,none⟩)]) 6 Tryz.func143 Z Z Z<|Qt [(0,.pointer (some ⟨g,0,none⟩))] ?_ ⟨Z,tvA⟩
 refine Qa<|sa Z Z<|Wn<|tN<|Qa<|sm Z Z<|sc _ Tryz.func170 Z Qo Z Z<|hT.mono ?_
 rintro e_ w1 ⟨rfl,hB1,hX⟩
 refine cR<|st (QM Z uz151 uz143 hv) Z<|sa Z Z<|Wn<|tN<|Qg ?_
 exact (rT Z Z ⟨Z,hB1,hX⟩).1
theorem Qws (hs:s.length≤1099511627776) (ha:at_≤s.length):Calls Tryz.prog 171 #[.pointer (some ⟨g,0,none⟩)] w fun e w' =>
  e=.returned (.int .u64 (X2 s at_ er).1)∧Blk w' g 235 #[Qv s,.int .i64 (X2 s at_ er).2.1,.int .i64 (X2 s at_ er).2.2]∧Chg (fun k=>k=g) w w':=by
 have hlt:=hB.lt;unfold X2
 by_cases he:er≠0
 ·simp only [if_pos he]
  refine Qj (args:=[.pointer (some ⟨g,0,none⟩)]) 67 Tryz.func171 Z Z Z<|Qt [(0,.pointer (some ⟨g,0,none⟩))] ?_ ⟨Z,tvA⟩
  have hcw:=Chg.refl (fun k=>k=g) w
  refine Qa<|sa Z Z<|Wn<|tN<|Qwk<|Qe<|Qa<|sm Z Z<|st (XI Z) Z<|sbN Z (Z) Z<|gY Z Z Z<|sm Z Z<|gY Z Z Z<|st (Qc Z) Z<|gY Z Z Z<|st (Qk K9 Z) Z<|gY Z Z Z<|st (Qi Z hB uz24 Z Z) Z<|gY Z Z Z<|st (QC Z Z) Z<|st (Qq Z Z) Z<|Wn<|tN<|QO Z (decide_eq_true he)<|Qa<|sa Z Z<|Wn<|tN<|Qg<|tR<|njR ?_
  exact (rT Z Z ⟨Z,hB,hcw⟩).1
 simp only [if_neg he];obtain rfl:er=0:=Classical.byContradiction he
 refine Qj (args:=[.pointer (some ⟨g,0,none⟩)]) 67 Tryz.func171 Z Z Z<|Qt [(0,.pointer (some ⟨g,0,none⟩))] ?_ ⟨Z,tvA⟩
 have hcw:=Chg.refl (fun k=>k=g) w
 refine Qa<|sa Z Z<|Wn<|tN<|W_scope 0 (fun nw1_ lw1_ w1=>∃ i:Nat,∃ x:Nat,nw1_=10-i∧lw1_=([(0,.pointer (some ⟨g,0,none⟩)),(3,.int .u64 x),(4,.int .i64 at_),(5,.int .i64 i)]:Env)∧(i≤9)∧(x<2 ^ (7*i))∧(uvM 0 0 (s.drop at_)=uvM i x (s.drop (at_+i)))∧(Chg (fun k=>k=g) w w1)∧(Blk w1 g 235 #[Qv s,.int .i64 (at_+i:Nat),.int .i64 0])∧(at_+i≤s.length)) Z ?_ ?_
 ·clear hcw hB;rintro nw1_ lw1_ w1 ⟨i,x,rfl,rfl,hi,hx,heq,hcw,hB,hai⟩;have hlt_hB_w1:=hB.lt
  refine Qa<|sm Z Z<|sc _ Tryz.func139 Z Qo Z Z<|(Qot g s (at_+i) 0 _ hB hs hai).mono ?_
  rintro e_ w2 ⟨rfl,hB1,hX⟩;refine cR ?_;have hn1:=hcw.next hX (fun k hk=>.inl hk)
  obtain ⟨tk,htk⟩:∃ tk,Jr s (at_+i) 0 1=tk:=⟨_,rfl⟩
  rw [htk] at hB1;rw [htk]
  obtain ⟨bb,hbb⟩:∃ bb,tk.1.headD 0=bb:=⟨_,rfl⟩
  rw [hbb];obtain ⟨tl,ta,te⟩:=tk;clear hcw hB;have hcw:=hn1;have hB:Blk w2 g 235 #[Qv s,.int .i64 ta,.int .i64 te]:=hB1;clear hB1 hn1;have ht1:=take1 htk
  refine sa Z Z<|Wn<|tN<|Qe<|Qp<|Qa<|sm Z Z<|st (Qc Z) Z<|st (Qk K9 Z) Z<|st (Qi Z hB uz24 Z Z) Z<|st (QC Z Z) Z<|sa Z Z<|Wn<|tN<|Qx Z (fun h22=>?_) (fun h22=>?_)
  ·replace h22:=Qs h22;obtain ⟨rfl,hdr,rfl,rfl⟩:=ht1.resolve_right (fun e=>h22 e.1)
   have hres:uvM 0 0 (s.drop at_)=(0,0,10):=by rw [heq,hdr]; rfl
   rw [hres]
   refine XJ<|bG<|tG<|scO Z Z<|V9<|Qa<|sm Z Z<|sm Z Z<|st (Qc Z) Z<|st (Qk K9 Z) Z<|st (Qi Z hB uz24 Z Z) Z<|sm Z Z<|sc _ fz172 Z Qo Z Z<|(UG g s _ _ _ hB 10 at_).mono ?_
   rintro e_ w3 ⟨rfl,hB1,hX⟩;refine cR ?_;have hn1:=hcw.next hX (fun k hk=>.inl hk);clear hcw hB;have hcw:=hn1;have hB:=hB1
   refine Wn<|tN<|Qe<|Qa<|sa Z Z<|Wn<|tN<|Qg<|tR<|njR ?_
   exact (rT Z Z ⟨Z,hB,hcw⟩).1
  ·replace h22:=Qs h22;obtain ⟨rfl,b,l',hdr,rfl,rfl,hlt2⟩:=ht1.resolve_left (fun e=>by rw [e.1] at h22; exact absurd h22 QF);have hb8:=b.toNat_lt;replace hbb:b=bb:=hbb;subst hbb
   refine Qa<|sm Z Z<|st (QL Z Z) Z<|sb Z Z (fun h31=>?_) (fun h31=>?_)
   ·replace h31:=Qs h31
    refine gY Z Z Z<|sm Z Z<|gY Z Z Z<|st (Jg Z Z) Z<|st (Qm Z Z) Z<|sb Z Z (fun h35=>?_) (fun h35=>?_)
    ·replace h35:=Qs h35
     refine gN Z Z Z Z<|gN Z Z Z Z<|gN Z Z Z Z<|gU Z Z Z Z<|gU Z Z Z Z<|gN Z Z Z Z<|st (Qm Z Z) Z<|sa Z Z<|Wn<|tN<|QO Z (Z)<|XJ<|bG<|tG<|scO Z Z<|V9<|Qa<|sm Z Z<|sm Z Z ?_
     have hres:uvM 0 0 (s.drop at_)=(0,0,12):=by
      rw [heq,hdr];unfold uvM;rw [if_pos Qb]
     rw [hres]
     refine sc _ fz172 Z Qo Z Z<|(UG g s _ _ _ hB 12 at_).mono ?_
     rintro e_ w4 ⟨rfl,hB1,hX⟩;refine cR ?_;have hn1:=hcw.next hX (fun k hk=>.inl hk);clear hcw hB;have hcw:=hn1;have hB:=hB1
     refine Wn<|tN<|Qa<|sa Z Z<|Wn<|tN<|Qg<|njR ?_
     exact (rT Z Z ⟨Z,hB,hcw⟩).1
    ·replace h35:=Qs h35
     refine gY Z Z Z<|sm Z Z<|gY Z Z Z<|st (Jg Z Z) Z<|gY Z Z Z<|sb Z Z (fun h38=>?_) (fun h38=>?_)
     ·replace h38:=Qs h38
      refine gY Z Z Z<|sm Z Z<|gY Z Z Z<|st (QL Z Z) Z<|gY Z Z Z<|st (Qm Z Z) Z<|st (Qq Z Z) Z<|sa Z Z<|Wn<|tN<|Qx Z (fun h28=>?_) (fun h28=>?_)
      ·replace h28:=Qs h28
       refine XJ<|bG<|tG<|scO Z Z<|V9<|Qa<|sm Z Z<|sm Z Z ?_
       have hres:uvM 0 0 (s.drop at_)=(0,0,12):=by
        rw [heq,hdr];unfold uvM;rw [if_pos Qb]
       rw [hres]
       refine sc _ fz172 Z Qo Z Z<|(UG g s _ _ _ hB 12 at_).mono ?_
       rintro e_ w5 ⟨rfl,hB1,hX⟩;refine cR ?_;have hn1:=hcw.next hX (fun k hk=>.inl hk);clear hcw hB;have hcw:=hn1;have hB:=hB1
       refine Wn<|tN<|Qa<|sa Z Z<|Wn<|tN<|Qg<|njR ?_
       exact (rT Z Z ⟨Z,hB,hcw⟩).1
      ·replace h28:=Qs h28
       refine Qf<|bN<|tN<|Qa ?_
       have hno:¬((i=9∧1<b.toNat)∨(0<i∧b.toNat=0)):=by omega
       have hmul:((b.toNat%128:Nat):Int)*((2 ^ (7*i):Nat):Int)=((b.toNat%128*2 ^ (7*i):Nat):Int):=by rw [Int.natCast_mul]
       have hsh:b.toNat%128*2 ^ (7*i)+2 ^ (7*i)≤18446744073709551616:=Uw hi Qb Qb
       refine sm Z Z<|sm Z Z<|st (Zn (z:=((b.toNat%128:Nat):Int)) Q0 Z Z (Qim b)) Z ?_
       refine st (QM (m:=((b.toNat%128:Nat):Int)) (z:=((b.toNat%128:Nat):Int)) Z uz5 uz151 (IntWalk.u64_in _ Qb)) Z<|sm Z Z<|st (Kl Z Z Qb) Z<|st (QM (m:=7*(i:Int)) (z:=7*(i:Int)) Z uz3 uz145 (IntWalk.u64_in _ Qb)) Z<|st (Qal (s:=7*i) (q:=((2 ^ (7*i):Nat):Int)) (z:=((b.toNat%128:Nat):Int)*((2 ^ (7*i):Nat):Int)) Z Z Qb (by show 7*(i:Int)≤64; omega) Qb Q0 (by rw [hmul]; exact IntWalk.u64_in _ Qb)) Z ?_
       refine st (Zn Q0 Z Z (Xr _ _ _ hx Qb)) Z ?_
       refine sa Z Z<|Wn<|tN<|Qe<|Qa<|sm Z Z<|st (Z1 Z Z) Z<|Wn<|tN<|Qx Z (fun h53=>?_) (fun h53=>?_)
       ·replace h53:=Qs h53;have hxn:x+(b.toNat-128)*2 ^ (7*i)<2 ^ (7*(i+1)):=XP hx Qb
        have heqn:uvM 0 0 (s.drop at_)=uvM (i+1) (x+(b.toNat-128)*2 ^ (7*i)) (s.drop (at_+(i+1))):=by
         rw [heq,hdr]
         have hd2:s.drop (at_+(i+1))=l':=by rw [← Nat.add_assoc,← List.drop_drop,hdr]; rfl
         rw [hd2]
         conv=>lhs; unfold uvM
         rw [if_neg hno,if_neg Qb]
        have hBn:Blk w2 g 235 #[Qv s,.int .i64 (at_+(i+1):Nat),.int .i64 0]:=hB
        refine Qa<|sm Z Z<|st (Qn Z Z Qb) Z<|sa Z Z<|Wn<|tN<|XJ<|tG<|scA ⟨_,_,?_,⟨i+1,x+(b.toNat-128)*2 ^ (7*i),Z,Z,by omega,hxn,heqn,hcw,hBn,by omega⟩,⟨Z,by rw [show b.toNat%128=b.toNat-128 by omega]; rfl,Z,Z,tvA⟩⟩
        omega
       ·replace h53:=Qs h53
        have hres:uvM 0 0 (s.drop at_)=(x+b.toNat*2 ^ (7*i),i+1,0):=by
         rw [heq,hdr];unfold uvM;rw [if_neg hno,if_pos Qb]
        rw [hres]
        have hbm:b.toNat%128=b.toNat:=by omega
        refine Qf<|tN<|Qe<|Qa<|sm Z Z<|sa Z Z<|Wn<|tN<|Qg<|tR<|scR ?_
        rw [hbm];exact (rT Z Z ⟨Z,hB,hcw⟩).1
     ·replace h38:=Qs h38
      refine gN Z Z Z Z<|gN Z Z Z Z<|gY Z Z Z<|st (Qq Z Z) Z<|st (Qq Z Z) Z<|sa Z Z<|Wn<|tN<|QX Z (Z)<|Qf<|bN<|tN<|Qa ?_
      have hno:¬((i=9∧1<b.toNat)∨(0<i∧b.toNat=0)):=by omega
      have hmul:((b.toNat%128:Nat):Int)*((2 ^ (7*i):Nat):Int)=((b.toNat%128*2 ^ (7*i):Nat):Int):=by rw [Int.natCast_mul]
      have hsh:b.toNat%128*2 ^ (7*i)+2 ^ (7*i)≤18446744073709551616:=Uw hi Qb Qb
      refine sm Z Z<|sm Z Z<|st (Zn (z:=((b.toNat%128:Nat):Int)) Q0 Z Z (Qim b)) Z ?_
      refine st (QM (m:=((b.toNat%128:Nat):Int)) (z:=((b.toNat%128:Nat):Int)) Z uz5 uz151 (IntWalk.u64_in _ Qb)) Z<|sm Z Z<|st (Kl Z Z Qb) Z<|st (QM (m:=7*(i:Int)) (z:=7*(i:Int)) Z uz3 uz145 (IntWalk.u64_in _ Qb)) Z<|st (Qal (s:=7*i) (q:=((2 ^ (7*i):Nat):Int)) (z:=((b.toNat%128:Nat):Int)*((2 ^ (7*i):Nat):Int)) Z Z Qb (by show 7*(i:Int)≤64; omega) Qb Q0 (by rw [hmul]; exact IntWalk.u64_in _ Qb)) Z ?_
      refine st (Zn Q0 Z Z (Xr _ _ _ hx Qb)) Z ?_
      refine sa Z Z<|Wn<|tN<|Qe<|Qa<|sm Z Z<|st (Z1 Z Z) Z<|Wn<|tN<|Qx Z (fun h53=>?_) (fun h53=>?_)
      ·replace h53:=Qs h53;have hxn:x+(b.toNat-128)*2 ^ (7*i)<2 ^ (7*(i+1)):=XP hx Qb
       have heqn:uvM 0 0 (s.drop at_)=uvM (i+1) (x+(b.toNat-128)*2 ^ (7*i)) (s.drop (at_+(i+1))):=by
        rw [heq,hdr]
        have hd2:s.drop (at_+(i+1))=l':=by rw [← Nat.add_assoc,← List.drop_drop,hdr]; rfl
        rw [hd2]
        conv=>lhs; unfold uvM
        rw [if_neg hno,if_neg Qb]
       have hBn:Blk w2 g 235 #[Qv s,.int .i64 (at_+(i+1):Nat),.int .i64 0]:=hB
       refine Qa<|sm Z Z<|st (Qn Z Z Qb) Z<|sa Z Z<|Wn<|tN<|XJ<|tG<|scA ⟨_,_,?_,⟨i+1,x+(b.toNat-128)*2 ^ (7*i),Z,Z,by omega,hxn,heqn,hcw,hBn,by omega⟩,⟨Z,by rw [show b.toNat%128=b.toNat-128 by omega]; rfl,Z,Z,tvA⟩⟩
       omega
      ·replace h53:=Qs h53
       have hres:uvM 0 0 (s.drop at_)=(x+b.toNat*2 ^ (7*i),i+1,0):=by
        rw [heq,hdr];unfold uvM;rw [if_neg hno,if_pos Qb]
       rw [hres]
       have hbm:b.toNat%128=b.toNat:=by omega
       refine Qf<|tN<|Qe<|Qa<|sm Z Z<|sa Z Z<|Wn<|tN<|Qg<|tR<|scR ?_
       rw [hbm];exact (rT Z Z ⟨Z,hB,hcw⟩).1
   ·replace h31:=Qs h31
    refine gN Z Z Z Z<|gN Z Z Z Z<|st (Qq Z Z) Z<|sm Z Z<|gY Z Z Z<|sm Z Z<|gY Z Z Z<|st (Jg Z Z) Z<|gY Z Z Z<|sb Z Z (fun h38=>?_) (fun h38=>?_)
    ·replace h38:=Qs h38
     refine gY Z Z Z<|sm Z Z<|gY Z Z Z<|st (QL Z Z) Z<|gY Z Z Z<|st (Qm Z Z) Z<|st (Qq Z Z) Z<|sa Z Z<|Wn<|tN<|Qx Z (fun h28=>?_) (fun h28=>?_)
     ·replace h28:=Qs h28
      refine XJ<|bG<|tG<|scO Z Z<|V9<|Qa<|sm Z Z<|sm Z Z ?_
      have hres:uvM 0 0 (s.drop at_)=(0,0,12):=by
       rw [heq,hdr];unfold uvM;rw [if_pos Qb]
      rw [hres]
      refine sc _ fz172 Z Qo Z Z<|(UG g s _ _ _ hB 12 at_).mono ?_
      rintro e_ w6 ⟨rfl,hB1,hX⟩;refine cR ?_;have hn1:=hcw.next hX (fun k hk=>.inl hk);clear hcw hB;have hcw:=hn1;have hB:=hB1
      refine Wn<|tN<|Qa<|sa Z Z<|Wn<|tN<|Qg<|njR ?_
      exact (rT Z Z ⟨Z,hB,hcw⟩).1
     ·replace h28:=Qs h28
      refine Qf<|bN<|tN<|Qa ?_
      have hno:¬((i=9∧1<b.toNat)∨(0<i∧b.toNat=0)):=by omega
      have hmul:((b.toNat%128:Nat):Int)*((2 ^ (7*i):Nat):Int)=((b.toNat%128*2 ^ (7*i):Nat):Int):=by rw [Int.natCast_mul]
      have hsh:b.toNat%128*2 ^ (7*i)+2 ^ (7*i)≤18446744073709551616:=Uw hi Qb Qb
      refine sm Z Z<|sm Z Z<|st (Zn (z:=((b.toNat%128:Nat):Int)) Q0 Z Z (Qim b)) Z ?_
      refine st (QM (m:=((b.toNat%128:Nat):Int)) (z:=((b.toNat%128:Nat):Int)) Z uz5 uz151 (IntWalk.u64_in _ Qb)) Z<|sm Z Z<|st (Kl Z Z Qb) Z<|st (QM (m:=7*(i:Int)) (z:=7*(i:Int)) Z uz3 uz145 (IntWalk.u64_in _ Qb)) Z<|st (Qal (s:=7*i) (q:=((2 ^ (7*i):Nat):Int)) (z:=((b.toNat%128:Nat):Int)*((2 ^ (7*i):Nat):Int)) Z Z Qb (by show 7*(i:Int)≤64; omega) Qb Q0 (by rw [hmul]; exact IntWalk.u64_in _ Qb)) Z ?_
      refine st (Zn Q0 Z Z (Xr _ _ _ hx Qb)) Z ?_
      refine sa Z Z<|Wn<|tN<|Qe<|Qa<|sm Z Z<|st (Z1 Z Z) Z<|Wn<|tN<|Qx Z (fun h53=>?_) (fun h53=>?_)
      ·replace h53:=Qs h53;have hxn:x+(b.toNat-128)*2 ^ (7*i)<2 ^ (7*(i+1)):=XP hx Qb
       have heqn:uvM 0 0 (s.drop at_)=uvM (i+1) (x+(b.toNat-128)*2 ^ (7*i)) (s.drop (at_+(i+1))):=by
        rw [heq,hdr]
        have hd2:s.drop (at_+(i+1))=l':=by rw [← Nat.add_assoc,← List.drop_drop,hdr]; rfl
        rw [hd2]
        conv=>lhs; unfold uvM
        rw [if_neg hno,if_neg Qb]
       have hBn:Blk w2 g 235 #[Qv s,.int .i64 (at_+(i+1):Nat),.int .i64 0]:=hB
       refine Qa<|sm Z Z<|st (Qn Z Z Qb) Z<|sa Z Z<|Wn<|tN<|XJ<|tG<|scA ⟨_,_,?_,⟨i+1,x+(b.toNat-128)*2 ^ (7*i),Z,Z,by omega,hxn,heqn,hcw,hBn,by omega⟩,⟨Z,by rw [show b.toNat%128=b.toNat-128 by omega]; rfl,Z,Z,tvA⟩⟩
       omega
      ·replace h53:=Qs h53
       have hres:uvM 0 0 (s.drop at_)=(x+b.toNat*2 ^ (7*i),i+1,0):=by
        rw [heq,hdr];unfold uvM;rw [if_neg hno,if_pos Qb]
       rw [hres]
       have hbm:b.toNat%128=b.toNat:=by omega
       refine Qf<|tN<|Qe<|Qa<|sm Z Z<|sa Z Z<|Wn<|tN<|Qg<|tR<|scR ?_
       rw [hbm];exact (rT Z Z ⟨Z,hB,hcw⟩).1
    ·replace h38:=Qs h38
     refine gN Z Z Z Z<|gN Z Z Z Z<|gY Z Z Z<|st (Qq Z Z) Z<|st (Qq Z Z) Z<|sa Z Z<|Wn<|tN<|QX Z (Z)<|Qf<|bN<|tN<|Qa ?_
     have hno:¬((i=9∧1<b.toNat)∨(0<i∧b.toNat=0)):=by omega
     have hmul:((b.toNat%128:Nat):Int)*((2 ^ (7*i):Nat):Int)=((b.toNat%128*2 ^ (7*i):Nat):Int):=by rw [Int.natCast_mul]
     have hsh:b.toNat%128*2 ^ (7*i)+2 ^ (7*i)≤18446744073709551616:=Uw hi Qb Qb
     refine sm Z Z<|sm Z Z<|st (Zn (z:=((b.toNat%128:Nat):Int)) Q0 Z Z (Qim b)) Z ?_
     refine st (QM (m:=((b.toNat%128:Nat):Int)) (z:=((b.toNat%128:Nat):Int)) Z uz5 uz151 (IntWalk.u64_in _ Qb)) Z<|sm Z Z<|st (Kl Z Z Qb) Z<|st (QM (m:=7*(i:Int)) (z:=7*(i:Int)) Z uz3 uz145 (IntWalk.u64_in _ Qb)) Z<|st (Qal (s:=7*i) (q:=((2 ^ (7*i):Nat):Int)) (z:=((b.toNat%128:Nat):Int)*((2 ^ (7*i):Nat):Int)) Z Z Qb (by show 7*(i:Int)≤64; omega) Qb Q0 (by rw [hmul]; exact IntWalk.u64_in _ Qb)) Z ?_
     refine st (Zn Q0 Z Z (Xr _ _ _ hx Qb)) Z ?_
     refine sa Z Z<|Wn<|tN<|Qe<|Qa<|sm Z Z<|st (Z1 Z Z) Z<|Wn<|tN<|Qx Z (fun h53=>?_) (fun h53=>?_)
     ·replace h53:=Qs h53;have hxn:x+(b.toNat-128)*2 ^ (7*i)<2 ^ (7*(i+1)):=XP hx Qb
      have heqn:uvM 0 0 (s.drop at_)=uvM (i+1) (x+(b.toNat-128)*2 ^ (7*i)) (s.drop (at_+(i+1))):=by
       rw [heq,hdr]
       have hd2:s.drop (at_+(i+1))=l':=by rw [← Nat.add_assoc,← List.drop_drop,hdr]; rfl
       rw [hd2]
       conv=>lhs; unfold uvM
       rw [if_neg hno,if_neg Qb]
      have hBn:Blk w2 g 235 #[Qv s,.int .i64 (at_+(i+1):Nat),.int .i64 0]:=hB
      refine Qa<|sm Z Z<|st (Qn Z Z Qb) Z<|sa Z Z<|Wn<|tN<|XJ<|tG<|scA ⟨_,_,?_,⟨i+1,x+(b.toNat-128)*2 ^ (7*i),Z,Z,by omega,hxn,heqn,hcw,hBn,by omega⟩,⟨Z,by rw [show b.toNat%128=b.toNat-128 by omega]; rfl,Z,Z,tvA⟩⟩
      omega
     ·replace h53:=Qs h53
      have hres:uvM 0 0 (s.drop at_)=(x+b.toNat*2 ^ (7*i),i+1,0):=by
       rw [heq,hdr];unfold uvM;rw [if_neg hno,if_pos Qb]
      rw [hres]
      have hbm:b.toNat%128=b.toNat:=by omega
      refine Qf<|tN<|Qe<|Qa<|sm Z Z<|sa Z Z<|Wn<|tN<|Qg<|tR<|scR ?_
      rw [hbm];exact (rT Z Z ⟨Z,hB,hcw⟩).1
 ·intro hpass_
  refine Qe<|Qa<|sm Z Z<|st (XI Z) Z<|sbN Z (Z) Z<|gY Z Z Z<|sm Z Z<|gY Z Z Z<|st (Qc Z) Z<|gY Z Z Z<|st (Qk K9 Z) Z<|gY Z Z Z<|st (Qi Z hB uz24 Z Z) Z<|gY Z Z Z<|st (QC Z Z) Z<|st (Qq Z Z) Z<|Wn<|tN<|QX Z (Z)<|Qf<|tN<|Qa<|sa Z Z<|Wn<|tN<|Qa<|sm Z Z<|st (Qc Z) Z<|st (Qk Ya Z) Z<|st (Qi Z hB uz3 Z Z) Z<|sa Z Z ?_
  refine sa Z Z<|Wn<|tN<|Qsr<|Qt _ (hpass_ _ _ _ ⟨0,0,Z,Z,by omega,by simp,Z,hcw,hB,ha⟩) ⟨Z,Z,Z,Z,tvA⟩
omit hB in
theorem Qww (most:Nat) (hm:most≤1099511627776) (hB:Blk w g 235 #[Qv s,.int .i64 at_,.int .i64 0]) (hs:s.length≤1099511627776) (ha:at_≤s.length):Calls Tryz.prog 141 #[.pointer (some ⟨g,0,none⟩),.int .i64 most] w fun e w' =>
  e=.returned (Qv (JP s at_ most).1)∧Blk w' g 235 #[Qv s,.int .i64 (JP s at_ most).2.1,.int .i64 (JP s at_ most).2.2]∧Chg (fun k=>k=g) w w':=by
 have hlt:=hB.lt
 have hU:=Qws g s at_ 0 w hB hs ha
 have hua:=Qmf (e:=0) ha;unfold JP
 obtain ⟨u,hu⟩:∃ u,X2 s at_ 0=u:=⟨_,rfl⟩
 rw [hu] at hU hua ⊢;obtain ⟨n,a1,e1⟩:=u;replace hua:a1≤s.length:=hua;simp only
 refine Qj (args:=[.pointer (some ⟨g,0,none⟩),.int .i64 most]) 40 Tryz.func141 Z Z Z<|Qt [(0,.pointer (some ⟨g,0,none⟩)),(1,.int .i64 most)] ?_ ⟨Z,Z,tvA⟩
 have hcw:=Chg.refl (fun k=>k=g) w
 refine Qa<|sa Z Z<|Wn<|tN<|Qa<|sm Z Z<|sc _ Tryz.func142 Z Qo Z Z<|(At_any g s at_ 0 _ hB).mono ?_
 rintro e_ w_ ⟨rfl,rfl⟩
 refine cR<|sa Z Z<|Wn<|tN<|Qa<|sm Z Z<|sc _ Tryz.func171 Z Qo Z Z<|hU.mono ?_
 rintro e_ w1 ⟨rfl,hB1,hX⟩;refine cR ?_;have hn1:=hcw.next hX (fun k hk=>.inl hk);clear hcw hB;have hcw:=hn1;have hB:Blk w1 g 235 #[Qv s,.int .i64 a1,.int .i64 e1]:=hB1;clear hB1 hn1
 refine sa Z Z<|Wn<|tN<|Qe<|Qp<|Qa<|sm Z Z<|sc _ fz140 Z Qo Z Z<|(Err_any g s a1 e1 _ hB).mono ?_
 rintro e_ w_ ⟨rfl,rfl⟩
 refine cR<|st (QC Z Z) Z<|sa Z Z<|Wn<|tN<|Qx Z (fun h11=>?_) (fun h11=>?_)
 ·replace h11:=Qs h11;rw [if_pos h11]
  refine Qa<|sa Z Z<|Wn<|tN<|Qg<|bR<|tR ?_
  exact (rT Z Z ⟨Z,hB,hcw⟩).1
 ·replace h11:=Qs h11;rw [if_neg h11];obtain rfl:e1=0:=Classical.byContradiction h11
  refine Qa<|sm Z Z<|st (QJ Z Z) Z<|sbN Z (decide_eq_false Qb) Z<|gY Z Z Z<|sm Z Z<|gY Z Z Z<|sm Z Z<|gY Z Z Z<|st (QM (m:=(most:Int)) (z:=(most:Int)) Z uz3 uz151 (IntWalk.u64_in _ Qb)) Z<|gY Z Z Z<|st (Jg Z Z) Z<|st (Qq Z Z) Z<|sa Z Z<|Wn<|tN<|Qx Z (fun h15=>?_) (fun h15=>?_)
  ·replace h15:=Qs h15;rw [if_pos (by have:(most:Int)<(n:Int):=h15; omega)]
   refine Qa<|sm Z Z<|sm Z Z<|sc _ fz172 Z Qo Z Z<|(UG g s _ _ _ hB 12 at_).mono ?_
   rintro e_ w2 ⟨rfl,hB1,hX⟩;refine cR ?_;have hn1:=hcw.next hX (fun k hk=>.inl hk);clear hcw hB;have hcw:=hn1;have hB:=hB1
   refine Wn<|tN<|Qa<|sa Z Z<|Wn<|tN<|Qg<|bR<|tR ?_
   exact (rT Z Z ⟨Z,hB,hcw⟩).1
  ·replace h15:=Qs h15
   have hnm:n≤most:=by have:¬(most:Int)<(n:Int):=h15; omega
   rw [if_neg Qb]
   refine Qa<|sm Z Z<|sm Z Z<|sc _ Tryz.func173 Z Qo Z Z (Q3 (Qxl g s a1 0 _ hB hs hua) fun w3 hb=>?_)
   replace hcw:=hcw.then_below hb;replace hB:=hB.bel hb;have zz3:=hb.size;clear hb
   refine st (QM (m:=((s.length-a1:Nat):Int)) (z:=((s.length-a1:Nat):Int)) Z uz3 uz151 (IntWalk.u64_in _ Qb)) Z<|st (Jg Z Z) Z<|sa Z Z<|Wn<|tN<|Qx Z (fun h27=>?_) (fun h27=>?_)
   ·replace h27:=Qs h27;rw [if_pos (by have:((s.length-a1:Nat):Int)<(n:Int):=h27; omega)]
    refine Qa<|sm Z Z<|sm Z Z<|sc _ fz172 Z Qo Z Z<|(UG g s _ _ _ hB 10 at_).mono ?_
    rintro e_ w4 ⟨rfl,hB1,hX⟩;refine cR ?_;have hn1:=hcw.next hX (fun k hk=>.inl hk);clear hcw hB;have hcw:=hn1;have hB:=hB1
    refine Wn<|tN<|Qa<|sa Z Z<|Wn<|tN<|Qg<|bR<|tR ?_
    exact (rT Z Z ⟨Z,hB,hcw⟩).1
   ·replace h27:=Qs h27;rw [if_neg (by have:¬((s.length-a1:Nat):Int)<(n:Int):=h27; omega)]
    refine Qf<|bN<|tN<|Qa<|sm Z Z<|sm Z Z<|st (QM (m:=(n:Int)) (z:=(n:Int)) Z uz151 uz3 (U8 Qb)) Z<|sc _ fz174 Z Qo Z Z<|(Qji g s a1 0 _ hB n hs hua Qb).mono ?_
    rintro e_ w5 ⟨rfl,hB1,hX⟩;refine cR ?_;have hn1:=hcw.next hX (fun k hk=>.inl hk);clear hcw hB;have hcw:=hn1;have hB:=hB1
    refine sa Z Z<|Wn<|tN<|Qg ?_
    exact (rT Z Z ⟨Z,hB,hcw⟩).1
end
end
section
open Go.RowKit
section
variable {P:Program} {fn:Func} {R:Ending→World→Prop} {l:Env} {w:World}
theorem r4 {x y z u:ResultVar} {v1 v2 v3 v4:Value} (hf:fn.results=#[x,y,z,u]) (hx:Yu P l w x v1) (hy:Yu P l w y v2) (hz:Yu P l w z v3) (hu:Yu P l w u v4) (hR:R (.returned (.tuple #[v1,v2,v3,v4])) w):JI P fn R .ret l w∧JI P fn R .normal l w:=by
 have h:∃ v,(∀ a:Array Value,(∀ t v,lk l t=some v→a.getD t undef=v)→(results fn a).run P w=.ok v w)∧R (.returned v) w:=⟨.tuple #[v1,v2,v3,v4],fun a ha=>by
  have h1:=Zi hx a ha;have h2:=Zi hy a ha;have h3:=Zi hz a ha;have h4:=Zi hu a ha;rw [UQ,hf];simp only [List.mapM_toArray,List.mapM_cons,List.mapM_nil,Sem.run_bind,Sem.run_pure,map_eq_pure_bind];simp only [h1,h2,h3,h4,Result.andThen_ok]
  rfl,hR⟩
 exact ⟨h,h⟩
theorem r4T {t t2 t3 t4:Nat} {v v2 v3 v4:Value} (hf:fn.results=#[.tmp t,.tmp t2,.tmp t3,.tmp t4]) (hx:lk l t=some v) (hy:lk l t2=some v2) (hz:lk l t3=some v3) (hu:lk l t4=some v4) (hR:R (.returned (.tuple #[v,v2,v3,v4])) w):JI P fn R .ret l w∧JI P fn R .normal l w:=r4 hf hx hy hz hu hR
end
def QG (s:List UInt8):UInt8×List UInt8×Nat×Int :=
  if s=[] then (0,[],0,10) else if s.headD 0=0 then (0,[],0,14)
  else if (JP s 1 1048576).2.2≠0 then (0,[],0,(JP s 1 1048576).2.2)
  else if s.length-(JP s 1 1048576).2.1<4 then (0,[],0,10)
  else if leN ((s.drop (JP s 1 1048576).2.1).take 4)≠(Crc.crc (s.take (JP s 1 1048576).2.1)).toNat then (0,[],0,13)
  else (s.headD 0,(JP s 1 1048576).1,(JP s 1 1048576).2.1+4,0)
def Qkb (x:UInt8×List UInt8×Nat×Int):Value:=.tuple #[.int .u8 x.1.toNat,Qv x.2.1,.int .i64 x.2.2.1,.int .i64 x.2.2.2]
theorem Qtt {s:List UInt8} {a:Nat} {e:Int} {n:Nat} (h:a≤s.length):(Jr s a e n).2.1≤s.length:=by
 unfold Jr
 split
 ·exact h
 ·split
  ·exact h
  ·simp only
   omega
theorem Qjh {s:List UInt8} {a m:Nat} (h:a≤s.length):(JP s a m).2.1≤s.length:=by
 have hu:=Qmf (e:=0) h;unfold JP
 split
 ·exact hu
 ·split
  ·exact h
  ·split
   ·exact h
   ·exact Qtt hu
theorem Qbz {s ul:List UInt8} {a ua n:Nat} {e ue:Int} (h:Jr s a e n=(ul,ua,ue)):(e≠0∧ue=e)∨(e=0∧s.length-a<n∧ue=10)∨(e=0∧¬s.length-a<n∧ue=0∧ul=(s.drop a).take n∧ua=a+n):=by
 unfold Jr at h
 by_cases he:e≠0
 ·rw [if_pos he] at h;injection h with h1 h2;injection h2 with h2 h3;exact .inl ⟨he,h3.symm⟩
 ·have he0:e=0:=Classical.byContradiction he;rw [if_neg he] at h
  by_cases hl:s.length-a<n
  ·rw [if_pos hl] at h;injection h with h1 h2;injection h2 with h2 h3
   exact .inr<|.inl ⟨he0,hl,h3.symm⟩
  ·rw [if_neg hl] at h;injection h with h1 h2;injection h2 with h2 h3
   exact .inr<|.inr ⟨he0,hl,h3.symm,h1.symm,h2.symm⟩
theorem Qly (s:List UInt8) (w:World) (hs:s.length≤1099511627776):Calls Tryz.prog 103 #[Qv s] w fun e w'=>e=.returned (Qkb (QG s))∧Below w.heap.size w w':=by
 unfold QG
 cases hse:s with
 | nil =>
  rw [if_pos rfl]
  refine Qj (args:=[Qv []]) 47 Tryz.func103 Z Z Z<|Qt [(0,Qv [])] ?_ ⟨Z,tvA⟩
  have bw:=Below.refl w.heap.size w
  refine Qa<|sa Z Z<|sa Z Z<|sa Z Z<|sa Z Z<|Wn<|tN<|Qa<|sm Z Z<|sc _ Tryz.func138 Z Qo Z Z<|(Qqm [] _).mono ?_
  rintro e_ w1 ⟨g,rfl,hB,hg,hgl,hb⟩;refine cR ?_;replace bw:=Ql bw hb;have zz1:=hb.size;clear hb
  refine sa Z Z<|Wn<|tN<|Qa<|sm Z Z<|sc _ Tryz.func139 Z Qo Z Z<|(Qot g [] 0 0 _ hB Q0 (Nat.zero_le _)).mono ?_
  rintro e_ w2 ⟨rfl,hB1,hC⟩;refine cR ?_;replace bw:=Ji bw hC Qb;have zz2:=hC.size;clear hC;clear hB;have hB:Blk w2 g 235 #[Qv [],.int .i64 0,.int .i64 10]:=hB1;clear hB1
  refine sa Z Z<|Wn<|tN<|Qe<|Qp<|Qa<|sm Z Z<|sc _ fz140 Z Qo Z Z<|(Err_any g [] 0 10 _ hB).mono ?_
  rintro e_ w_ ⟨rfl,rfl⟩
  refine cR<|st (QC Z Z) Z<|sa Z Z<|Wn<|tN<|QO Z (Z)<|Qa<|sm Z Z<|sc _ fz140 Z Qo Z Z<|(Err_any g [] 0 10 _ hB).mono ?_
  rintro e_ w_ ⟨rfl,rfl⟩
  refine cR<|sa Z Z<|sa Z Z<|sa Z Z<|sa Z Z<|Wn<|tN<|Qg<|bR<|tR ?_
  exact (r4T Z Z Z Z Z ⟨Z,bw⟩).1
 | cons k s1 =>
  rw [← hse]
  have hne:s≠[]:=by rw [hse]; simp
  have hk:s.headD 0=k:=by rw [hse]; rfl
  have hl1:1≤s.length:=by rw [hse]; simp
  have ht1:Jr s 0 0 1=([k],1,0):=by
   rw [hse];unfold Jr;rw [if_neg Q0,if_neg Q0]
   rfl
  have hta:=Qjh (m:=1048576) hl1;rw [if_neg hne,hk]
  obtain ⟨t,ht⟩:∃ t,JP s 1 1048576=t:=⟨_,rfl⟩
  have hTx:=fun g w hB=>Qww g s 1 w 1048576 Qb hB hs hl1
  rw [ht] at hta ⊢;simp only [ht] at hTx;obtain ⟨body,a1,e1⟩:=t;replace hta:a1≤s.length:=hta;simp only at hTx ⊢
  refine Qj (args:=[Qv s]) 47 Tryz.func103 Z Z Z<|Qt [(0,Qv s)] ?_ ⟨Z,tvA⟩
  have bw:=Below.refl w.heap.size w
  refine Qa<|sa Z Z<|sa Z Z<|sa Z Z<|sa Z Z<|Wn<|tN<|Qa<|sm Z Z<|sc _ Tryz.func138 Z Qo Z Z<|(Qqm s _).mono ?_
  rintro e_ w1 ⟨g,rfl,hB,hg,hgl,hb⟩;refine cR ?_;replace bw:=Ql bw hb;have zz1:=hb.size;clear hb
  refine sa Z Z<|Wn<|tN<|Qa<|sm Z Z<|sc _ Tryz.func139 Z Qo Z Z<|(Qot g s 0 0 _ hB hs (Nat.zero_le _)).mono ?_
  rintro e_ w2 ⟨rfl,hB1,hC⟩;refine cR ?_;replace bw:=Ji bw hC Qb;have zz2:=hC.size;clear hC;rw [ht1] at hB1;rw [ht1];clear hB;have hB:Blk w2 g 235 #[Qv s,.int .i64 1,.int .i64 0]:=hB1;clear hB1
  show WL _ _ _ _ _ _ ((_,.int .u8 k.toNat)::_) _
  refine sa Z Z<|Wn<|tN<|Qe<|Qp<|Qa<|sm Z Z<|sc _ fz140 Z Qo Z Z<|(Err_any g s 1 0 _ hB).mono ?_
  rintro e_ w_ ⟨rfl,rfl⟩
  refine cR<|st (QC Z Z) Z<|sa Z Z<|Wn<|tN<|QX Z (Z)<|Qa<|sm Z Z<|st (QL Z Z) Z<|sa Z Z<|Wn<|tN<|Qx Z (fun h21=>?_) (fun h21=>?_)
  ·replace h21:=Qs h21;rw [if_pos (by apply UInt8.toNat.inj; show k.toNat=0; omega)]
   refine Qa<|sa Z Z<|sa Z Z<|sa Z Z<|sa Z Z<|Wn<|tN<|Qg<|bR<|tR ?_
   exact (r4T Z Z Z Z Z ⟨Z,bw⟩).1
  ·replace h21:=Qs h21;rw [if_neg (fun e=>h21 (by rw [e]; rfl))]
   refine Qf<|bN<|tN<|Qa<|sm Z Z<|sc _ Tryz.func141 Z Qo Z Z<|(hTx g _ hB).mono ?_
   rintro e_ w3 ⟨rfl,hB1,hC⟩;refine cR ?_;replace bw:=Ji bw hC Qb;have zz3:=hC.size;clear hC;clear hB;have hB:=hB1;clear hB1
   refine sa Z Z<|Wn<|tN<|Qa<|sm Z Z<|sc _ Tryz.func142 Z Qo Z Z<|(At_any g s a1 e1 _ hB).mono ?_
   rintro e_ w_ ⟨rfl,rfl⟩
   refine cR<|sa Z Z<|Wn<|tN<|Qa<|sm Z Z ?_
   have hU:=U32_any g s a1 e1 _ hB hs hta
   obtain ⟨u,hu⟩:∃ u,Jr s a1 e1 4=u:=⟨_,rfl⟩
   rw [hu] at hU;obtain ⟨ul,ua,ue⟩:=u;simp only at hU
   refine sc _ Tryz.func143 Z Qo Z Z<|(hU).mono ?_
   rintro e_ w4 ⟨rfl,hB1,hC⟩;refine cR ?_;replace bw:=Ji bw hC Qb;have zz4:=hC.size;clear hC;clear hB;have hB:=hB1;clear hB1 hU
   refine sa Z Z<|Wn<|tN<|Qe<|Qp<|Qa<|sm Z Z<|sc _ fz140 Z Qo Z Z<|(Err_any g s ua ue _ hB).mono ?_
   rintro e_ w_ ⟨rfl,rfl⟩
   refine cR<|st (QC Z Z) Z<|sa Z Z<|Wn<|tN<|Qx Z (fun h30=>?_) (fun h30=>?_)
   ·replace h30:=Qs h30;refine Qa ?_
    have hres:(if e1≠0 then ((0:UInt8),([]:List UInt8),0,e1) else if s.length-a1<4 then (0,[],0,10) else if leN ((s.drop a1).take 4)≠(Crc.crc (s.take a1)).toNat then (0,[],0,13) else (k,body,a1+4,0))=(0,[],0,ue):=by
     rcases Qbz hu with ⟨h1,h2⟩|⟨h1,h2,h3⟩|⟨_,_,h3,_⟩
     ·rw [if_pos h1,h2]
     ·rw [if_neg (by rw [h1]; simp),if_pos h2,h3]
     ·exact absurd h3 h30
    refine sm Z Z<|sc _ fz140 Z Qo Z Z<|(Err_any g s ua ue _ hB).mono ?_
    rintro e_ w_ ⟨rfl,rfl⟩
    refine cR<|sa Z Z<|sa Z Z<|sa Z Z<|sa Z Z<|Wn<|tN<|Qg<|bR<|tR ?_
    rw [hres];exact (r4T Z Z Z Z Z ⟨Z,bw⟩).1
   ·replace h30:=Qs h30;have h30':ue=0:=Classical.byContradiction h30
    obtain ⟨he1,hl4,_,hul,hua⟩:e1=0∧¬s.length-a1<4∧ue=0∧ul=(s.drop a1).take 4∧ua=a1+4:=by
     rcases Qbz hu with ⟨h1,h2⟩|⟨h1,h2,h3⟩|h
     ·rw [h2] at h30'; exact absurd h30' h1
     ·rw [h3] at h30'; cases h30'
     ·exact h
    rw [if_neg (by rw [he1]; simp),if_neg hl4]
    refine Qa<|sm Z Z<|sm Z Z<|sm Z Z<|st (KQ (s:=s) Z Z uz9 Z hta) Z<|sc _ fz78 Z Qo Z Z (Q3 (Qbp (s.take a1) _ (by rw [List.length_take]; omega)) fun w5 hb=>?_)
    replace bw:=Ql bw hb;replace hB:=hB.bel hb;have zz5:=hb.size;clear hb
    refine st (QC Z Z) Z<|sa Z Z<|Wn<|tN<|Qx Z (fun h36=>?_) (fun h36=>?_)
    ·replace h36:=Qs h36;rw [if_pos (by rw [← hul]; omega)]
     refine Qa<|sa Z Z<|sa Z Z<|sa Z Z<|sa Z Z<|Wn<|tN<|Qg<|bR<|tR ?_
     exact (r4T Z Z Z Z Z ⟨Z,bw⟩).1
    ·replace h36:=Qs h36;rw [if_neg (by rw [← hul]; omega),← hua]
     refine Qf<|bN<|tN<|Qa<|sm Z Z<|sm Z Z<|sm Z Z<|sc _ Tryz.func142 Z Qo Z Z<|(At_any g s ua ue _ hB).mono ?_
     rintro e_ w_ ⟨rfl,rfl⟩
     refine cR<|sa Z Z<|sa Z Z<|sa Z Z<|sa Z Z<|Wn<|tN<|Qg ?_
     exact (r4T Z Z Z Z Z ⟨Z,bw⟩).1
end
section
open Go.RowKit
def fixB:Nat→Nat→List UInt8
  | _,0=>[]
  | x,n+1=>UInt8.ofNat (x%256)::fixB (x / 256) n
theorem fixB_length:∀ (x n:Nat),(fixB x n).length=n
 | _,0=>rfl
 | x,n+1=>by rw [fixB,List.length_cons,fixB_length]
theorem leN_fixB:∀ (n x:Nat),x<256 ^ n→leN (fixB x n)=x
 | 0,x,h=>by simp at h; subst h; rfl
 | n+1,x,h=>by
  rw [fixB,leN,leN_fixB n (x / 256) (by rw [Nat.pow_succ] at h; exact Nat.div_lt_of_lt_mul (by rw [Nat.mul_comm]; exact h))]
  have:(UInt8.ofNat (x%256)).toNat=x%256:=by simp
  rw [this]
  omega
theorem fixB_leN:∀ l:List UInt8,fixB (leN l) l.length=l
 | []=>rfl
 | b::l=>by
  have hb:=b.toNat_lt;rw [List.length_cons,fixB,leN,show (b.toNat+256*leN l) / 256=leN l by omega,fixB_leN l,show (b.toNat+256*leN l)%256=b.toNat by omega]
  simp
theorem Qhk {x:Nat} {l:List UInt8} (hl:l.length=4) (hx:x<4294967296):fixB x 4=l↔leN l=x:=by
 constructor
 ·intro h;rw [← h,leN_fixB 4 x (by simpa using hx)]
 ·intro h;rw [← h,← hl,fixB_leN]
theorem fixB_snoc:∀ (i x:Nat),fixB x i++[UInt8.ofNat (x / 256 ^ i%256)]=fixB x (i+1)
 | 0,x=>by simp [fixB]
 | i+1,x=>by
  have:=fixB_snoc i (x / 256)
  rw [Nat.div_div_eq_div_mul,← Nat.pow_succ'] at this;rw [fixB,List.cons_append,this]
  rfl
theorem Few_ref (s:List UInt8) (w:World) (_hs:s.length≤1099511627776):Calls Tryz.prog 175 #[Qv s] w fun e w'=>e=.returned (.tuple #[.int .u64 (uvM 0 0 s).1,.int .i64 (uvM 0 0 s).2.1,.int .i64 (uvM 0 0 s).2.2])∧w=w':=by
 refine Qj (args:=[Qv s]) 44 Tryz.func175 Z Z Z<|Qt [(0,Qv s)] ?_ ⟨Z,tvA⟩
 refine Qa<|sa Z Z<|sa Z Z<|sa Z Z<|Wn<|tN<|Qa<|sa Z Z<|Wn<|tN<|Qa<|sa Z Z<|Wn<|tN<|Qa<|sa Z Z<|Wn<|tN<|Qp<|JG (fun nw1_ lw1_ w1=>∃ i:Nat,∃ x:Nat,nw1_=10-i∧lw1_=([(0,Qv s),(5,.int .u64 x),(6,.int .u64 (2 ^ (7*i):Nat)),(7,.int .i64 i)]:Env)∧(w1=w)∧(i≤9)∧(x<2 ^ (7*i))∧(uvM 0 0 s=uvM i x (s.drop i))) _ ⟨_,⟨0,0,Z,Z,Z,by omega,by simp,Z⟩,⟨Z,Z,Z,Z,tvA⟩⟩ ?_
 rintro nw1_ lw1_ w1 ⟨i,x,rfl,rfl,hw,hi,hx,heq⟩
 refine Qe<|Qp<|Qe<|Qa<|sm Z Z<|sm Z Z<|st (QP Z Z uz9) Z<|st (Z1 Z Z) Z<|Wn<|tN<|Qx Z (fun h14=>?_) (fun h14=>?_)
 ·replace h14:=Qs h14
  have hres:uvM 0 0 s=(0,0,10):=by rw [heq,List.drop_of_length_le Qb]; rfl
  rw [hres]
  refine Qa<|sa Z Z<|sa Z Z<|sa Z Z<|Wn<|tN<|Qg<|tR<|bR<|tR<|tR<|bR ?_
  exact (rTTT Z Z Z Z ⟨Z,hw.symm⟩).1
 ·replace h14:=Qs h14
  obtain ⟨b,hb⟩:∃ b,s[i]?=some b:=⟨_,List.getElem?_eq_getElem Qb⟩
  have hgd:s.getD i 0=b:=by rw [List.getD_eq_getElem?_getD,hb]; rfl
  have hdr:s.drop i=b::s.drop (i+1):=by
   obtain ⟨hj,rfl⟩:=List.getElem?_eq_some_iff.1 hb;exact List.drop_eq_getElem_cons hj
  have hb8:=b.toNat_lt
  refine Qf<|tN<|Qa<|sm Z Z<|sm Z Z<|st (Ys (q:=i) Z Z uz9 Z Qb) Z ?_
  rw [hgd]
  refine st (QM (m:=(b.toNat:Int)) (z:=(b.toNat:Int)) Z uz5 uz151 (IntWalk.u64_in _ Qb)) Z<|sa Z Z<|Wn<|tN<|Qe<|Qa<|sm Z Z<|st (QL Z Z) Z<|sb Z Z (fun h21=>?_) (fun h21=>?_)
  ·replace h21:=Qs h21
   refine gY Z Z Z<|sm Z Z<|gY Z Z Z<|st (Jg Z Z) Z<|st (Qm Z Z) Z<|Wn<|tN<|Qx Z (fun h24=>?_) (fun h24=>?_)
   ·replace h24:=Qs h24
    refine Qa<|sa Z Z<|sa Z Z<|sa Z Z<|Wn<|tN<|Qg<|tR<|bR<|tR<|tR<|bR ?_
    have hres:uvM 0 0 s=(0,0,12):=by
     rw [heq,hdr];unfold uvM;rw [if_pos Qb]
    rw [hres];exact (rTTT Z Z Z Z ⟨Z,hw.symm⟩).1
   ·replace h24:=Qs h24
    refine Qf<|tN<|Qa ?_
    have hsh:=Uw hi hb8 Qb
    have hmul:((2 ^ (7*i):Nat):Int)*((b.toNat:Int)%128)=((b.toNat%128*2 ^ (7*i):Nat):Int):=by
     rw [Int.natCast_mul,Int.mul_comm]
     rfl
    have hmul2:((2 ^ (7*i):Nat):Int)*128=((2 ^ (7*(i+1)):Nat):Int):=by
     rw [show 7*(i+1)=7*i+7 by omega,Nat.pow_add,Int.natCast_mul]
     rfl
    refine sm Z Z<|sm Z Z<|sm Z Z<|st (Yc Z Z Qb Qb) Z<|st (Qls (z:=((b.toNat%128*2 ^ (7*i):Nat):Int)) Z Z (by rw [hmul]; exact IntWalk.u64_in _ Qb)) Z ?_
    refine st (Yx (z:=((x+b.toNat%128*2 ^ (7*i):Nat):Int)) Z Z (by rw [← Int.natCast_add]; exact IntWalk.u64_in _ Qb)) Z ?_
    refine sa Z Z<|Wn<|tN<|Qa<|sm Z Z<|st (Qls (z:=((2 ^ (7*(i+1)):Nat):Int)%18446744073709551616) Z Z (by rw [hmul2]; exact wu64 _)) Z ?_
    refine sa Z Z<|Wn<|tN<|Qa<|sm Z Z<|st (QJ Z Z) Z<|Wn<|tN<|Qx Z (fun h34=>?_) (fun h34=>?_)
    ·replace h34:=Qs h34
     refine Qe<|Qa<|sm Z Z<|st (QL Z Z) Z<|sb Z Z (fun h37=>?_) (fun h37=>?_)
     ·replace h37:=Qs h37
      refine gY Z Z Z<|sm Z Z<|gY Z Z Z<|st (Jg Z Z) Z<|st (Qm Z Z) Z<|Wn<|tN<|Qx Z (fun h40=>?_) (fun h40=>?_)
      ·replace h40:=Qs h40
       refine Qa<|sa Z Z<|sa Z Z<|sa Z Z<|Wn<|tN<|Qg<|tR<|bR<|tR<|tR<|bR ?_
       have hres:uvM 0 0 s=(0,0,12):=by
        rw [heq,hdr];unfold uvM;rw [if_pos Qb]
       rw [hres];exact (rTTT Z Z Z Z ⟨Z,hw.symm⟩).1
      ·replace h40:=Qs h40
       refine Qf<|tN<|Qa<|sm Z Z<|sm Z Z<|st (Qn Z Z Qb) Z<|sa Z Z<|sa Z Z<|sa Z Z<|Wn<|tN<|Qg<|bR<|tR<|tR<|bR ?_
       have hres:uvM 0 0 s=(x+b.toNat*2 ^ (7*i),i+1,0):=by
        rw [heq,hdr];unfold uvM;rw [if_neg Qb,if_pos Qb]
       rw [hres,show b.toNat%128=b.toNat by omega];exact (rTTT Z Z Z Z ⟨Z,hw.symm⟩).1
     ·replace h37:=Qs h37
      refine gN Z Z Z Z<|gN Z Z Z Z<|st (Qq Z Z) Z<|Wn<|tN<|QX Z (Z)<|Qf<|tN<|Qa<|sm Z Z<|sm Z Z<|st (Qn Z Z Qb) Z<|sa Z Z<|sa Z Z<|sa Z Z<|Wn<|tN<|Qg<|bR<|tR<|tR<|bR ?_
      have hres:uvM 0 0 s=(x+b.toNat*2 ^ (7*i),i+1,0):=by
       rw [heq,hdr];unfold uvM;rw [if_neg Qb,if_pos Qb]
      rw [hres,show b.toNat%128=b.toNat by omega];exact (rTTT Z Z Z Z ⟨Z,hw.symm⟩).1
    ·replace h34:=Qs h34;have hxn:x+(b.toNat-128)*2 ^ (7*i)<2 ^ (7*(i+1)):=XP hx Qb
     have heqn:uvM 0 0 s=uvM (i+1) (x+(b.toNat-128)*2 ^ (7*i)) (s.drop (i+1)):=by
      rw [heq,hdr]
      conv=>lhs; unfold uvM
      rw [if_neg Qb,if_neg Qb]
     have hun:((2 ^ (7*(i+1)):Nat):Int)%18446744073709551616=((2 ^ (7*(i+1)):Nat):Int):=by
      have h8:i≤8:=by omega
      have hp:2 ^ (7*(i+1))≤2 ^ 63:=Nat.pow_le_pow_right Qb Qb
      omega
     refine Qf<|bN<|tN<|Qw<|sm Z Z<|st (Qn Z Z Qb) Z<|sa Z Z<|Wn<|tN ⟨_,_,?_,⟨i+1,x+(b.toNat-128)*2 ^ (7*i),Z,Z,hw,by omega,hxn,heqn⟩,⟨Z,by rw [show b.toNat%128=b.toNat-128 by omega]; rfl,by rw [hun]; rfl,Z,tvA⟩⟩
     omega
  ·replace h21:=Qs h21
   refine gN Z Z Z Z<|gN Z Z Z Z<|st (Qq Z Z) Z<|Wn<|tN<|QX Z (Z)<|Qf<|tN<|Qa ?_
   have hsh:=Uw hi hb8 Qb
   have hmul:((2 ^ (7*i):Nat):Int)*((b.toNat:Int)%128)=((b.toNat%128*2 ^ (7*i):Nat):Int):=by
    rw [Int.natCast_mul,Int.mul_comm]
    rfl
   have hmul2:((2 ^ (7*i):Nat):Int)*128=((2 ^ (7*(i+1)):Nat):Int):=by
    rw [show 7*(i+1)=7*i+7 by omega,Nat.pow_add,Int.natCast_mul]
    rfl
   refine sm Z Z<|sm Z Z<|sm Z Z<|st (Yc Z Z Qb Qb) Z<|st (Qls (z:=((b.toNat%128*2 ^ (7*i):Nat):Int)) Z Z (by rw [hmul]; exact IntWalk.u64_in _ Qb)) Z ?_
   refine st (Yx (z:=((x+b.toNat%128*2 ^ (7*i):Nat):Int)) Z Z (by rw [← Int.natCast_add]; exact IntWalk.u64_in _ Qb)) Z ?_
   refine sa Z Z<|Wn<|tN<|Qa<|sm Z Z<|st (Qls (z:=((2 ^ (7*(i+1)):Nat):Int)%18446744073709551616) Z Z (by rw [hmul2]; exact wu64 _)) Z ?_
   refine sa Z Z<|Wn<|tN<|Qa<|sm Z Z<|st (QJ Z Z) Z<|Wn<|tN<|Qx Z (fun h34=>?_) (fun h34=>?_)
   ·replace h34:=Qs h34
    refine Qe<|Qa<|sm Z Z<|st (QL Z Z) Z<|sb Z Z (fun h37=>?_) (fun h37=>?_)
    ·replace h37:=Qs h37
     refine gY Z Z Z<|sm Z Z<|gY Z Z Z<|st (Jg Z Z) Z<|st (Qm Z Z) Z<|Wn<|tN<|Qx Z (fun h40=>?_) (fun h40=>?_)
     ·replace h40:=Qs h40
      refine Qa<|sa Z Z<|sa Z Z<|sa Z Z<|Wn<|tN<|Qg<|tR<|bR<|tR<|tR<|bR ?_
      have hres:uvM 0 0 s=(0,0,12):=by
       rw [heq,hdr];unfold uvM;rw [if_pos Qb]
      rw [hres];exact (rTTT Z Z Z Z ⟨Z,hw.symm⟩).1
     ·replace h40:=Qs h40
      refine Qf<|tN<|Qa<|sm Z Z<|sm Z Z<|st (Qn Z Z Qb) Z<|sa Z Z<|sa Z Z<|sa Z Z<|Wn<|tN<|Qg<|bR<|tR<|tR<|bR ?_
      have hres:uvM 0 0 s=(x+b.toNat*2 ^ (7*i),i+1,0):=by
       rw [heq,hdr];unfold uvM;rw [if_neg Qb,if_pos Qb]
      rw [hres,show b.toNat%128=b.toNat by omega];exact (rTTT Z Z Z Z ⟨Z,hw.symm⟩).1
    ·replace h37:=Qs h37
     refine gN Z Z Z Z<|gN Z Z Z Z<|st (Qq Z Z) Z<|Wn<|tN<|QX Z (Z)<|Qf<|tN<|Qa<|sm Z Z<|sm Z Z<|st (Qn Z Z Qb) Z<|sa Z Z<|sa Z Z<|sa Z Z<|Wn<|tN<|Qg<|bR<|tR<|tR<|bR ?_
     have hres:uvM 0 0 s=(x+b.toNat*2 ^ (7*i),i+1,0):=by
      rw [heq,hdr];unfold uvM;rw [if_neg Qb,if_pos Qb]
     rw [hres,show b.toNat%128=b.toNat by omega];exact (rTTT Z Z Z Z ⟨Z,hw.symm⟩).1
   ·replace h34:=Qs h34;have hxn:x+(b.toNat-128)*2 ^ (7*i)<2 ^ (7*(i+1)):=XP hx Qb
    have heqn:uvM 0 0 s=uvM (i+1) (x+(b.toNat-128)*2 ^ (7*i)) (s.drop (i+1)):=by
     rw [heq,hdr]
     conv=>lhs; unfold uvM
     rw [if_neg Qb,if_neg Qb]
    have hun:((2 ^ (7*(i+1)):Nat):Int)%18446744073709551616=((2 ^ (7*(i+1)):Nat):Int):=by
     have h8:i≤8:=by omega
     have hp:2 ^ (7*(i+1))≤2 ^ 63:=Nat.pow_le_pow_right Qb Qb
     omega
    refine Qf<|bN<|tN<|Qw<|sm Z Z<|st (Qn Z Z Qb) Z<|sa Z Z<|Wn<|tN ⟨_,_,?_,⟨i+1,x+(b.toNat-128)*2 ^ (7*i),Z,Z,hw,by omega,hxn,heqn⟩,⟨Z,by rw [show b.toNat%128=b.toNat-128 by omega]; rfl,by rw [hun]; rfl,Z,tvA⟩⟩
    omega
def YR (s:List UInt8) (most:Nat):List UInt8×Nat×Int :=
  if (uvM 0 0 s).2.2≠0 then ([],0,(uvM 0 0 s).2.2) else if most<(uvM 0 0 s).1 then ([],0,12) else if s.length-(uvM 0 0 s).2.1<(uvM 0 0 s).1 then ([],0,10) else ((s.drop (uvM 0 0 s).2.1).take (uvM 0 0 s).1,(uvM 0 0 s).2.1+(uvM 0 0 s).1,0)
theorem Qwv (s:List UInt8) (most:Nat) (w:World) (hs:s.length≤1099511627776) (hm:most≤1099511627776):Calls Tryz.prog 144 #[Qv s,.int .i64 most] w fun e w'=>e=.returned (.tuple #[Qv (YR s most).1,.int .i64 (YR s most).2.1,.int .i64 (YR s most).2.2])∧w=w':=by
 have hF:=Few_ref s w hs;have hk:=uvM_len s 0 0;unfold YR
 obtain ⟨u,hu⟩:∃ u,uvM 0 0 s=u:=⟨_,rfl⟩
 rw [hu] at hF hk ⊢;obtain ⟨n,k,e⟩:=u;simp only at hF hk ⊢;rw [Nat.zero_add] at hk
 refine Qj (args:=[Qv s,.int .i64 most]) 45 Tryz.func144 Z Z Z<|Qt [(0,Qv s),(1,.int .i64 most)] ?_ ⟨Z,Z,tvA⟩
 refine Qa<|sa Z Z<|sa Z Z<|sa Z Z<|Wn<|tN<|Qa<|sm Z Z<|sc _ Tryz.func175 Z Qo Z Z<|(hF).mono ?_
 rintro e_ w_ ⟨rfl,rfl⟩
 refine cR<|sm Z Z<|st (Qu Z Z) Z<|st (Qu Z Z) Z<|st (Qu Z Z) Z<|sa Z Z<|sa Z Z<|sa Z Z<|Wn<|tN<|Qe<|Qa<|sm Z Z<|st (QC Z Z) Z<|Wn<|tN<|Qx Z (fun h17=>?_) (fun h17=>?_)
 ·replace h17:=Qs h17;rw [if_pos h17]
  refine Qa<|sm Z Z<|sa Z Z<|sa Z Z<|sa Z Z<|Wn<|tN<|Qg<|tR ?_
  exact (rTTT Z Z Z Z ⟨Z,Z⟩).1
 ·replace h17:=Qs h17;rw [if_neg h17];obtain rfl:e=0:=Classical.byContradiction h17
  refine Qf<|tN<|Qe<|Qa<|sm Z Z<|st (QJ Z Z) Z<|sbN Z (decide_eq_false Qb) Z<|gY Z Z Z<|sm Z Z<|gY Z Z Z<|sm Z Z<|gY Z Z Z<|st (QM (m:=(most:Int)) (z:=(most:Int)) Z uz3 uz151 (IntWalk.u64_in _ Qb)) Z<|gY Z Z Z<|st (Jg Z Z) Z<|st (Qq Z Z) Z<|Wn<|tN<|Qx Z (fun h26=>?_) (fun h26=>?_)
  ·replace h26:=Qs h26;rw [if_pos (by have:(most:Int)<(n:Int):=h26; omega)]
   refine Qa<|sa Z Z<|sa Z Z<|sa Z Z<|Wn<|tN<|Qg<|tR ?_
   exact (rTTT Z Z Z Z ⟨Z,Z⟩).1
  ·replace h26:=Qs h26
   have hnm:n≤most:=by have:¬(most:Int)<(n:Int):=h26; omega
   rw [if_neg Qb]
   refine Qf<|tN<|Qe<|Qa<|sm Z Z<|st (QP Z Z uz9) Z<|sm Z Z<|st (JU Z Z Qb) Z<|st (QM (m:=(s.length:Int)-(k:Int)) (z:=(s.length:Int)-(k:Int)) Z uz3 uz151 (IntWalk.u64_in _ Qb)) Z<|sm Z Z<|st (QJ Z Z) Z<|Wn<|tN<|Qx Z (fun h33=>?_) (fun h33=>?_)
   ·replace h33:=Qs h33;rw [if_pos (by have:(s.length:Int)-(k:Int)<(n:Int):=h33; omega)]
    refine Qa<|sa Z Z<|sa Z Z<|sa Z Z<|Wn<|tN<|Qg<|tR ?_
    exact (rTTT Z Z Z Z ⟨Z,Z⟩).1
   ·replace h33:=Qs h33
    have hsn:¬s.length-k<n:=by have:¬(s.length:Int)-(k:Int)<(n:Int):=h33; omega
    rw [if_neg hsn]
    refine Qf<|tN<|Qa<|sm Z Z<|sm Z Z<|sm Z Z<|sm Z Z<|st (QM (m:=(n:Int)) (z:=(n:Int)) Z uz151 uz3 (U8 Qb)) Z<|st (Qn Z Z Qb) Z<|st (Qiq (s:=s) (i:=k) (j:=k+n) Z Z Z uz9 Z Qb Qb Qb) Z<|sm Z Z<|sm Z Z<|st (QM (m:=(n:Int)) (z:=(n:Int)) Z uz151 uz3 (U8 Qb)) Z<|st (Qn Z Z Qb) Z<|sa Z Z<|sa Z Z<|sa Z Z<|Wn<|tN<|Qg<|(rTTT Z Z Z Z ⟨?_,Z⟩).1
    rw [List.drop_take,Nat.add_sub_cancel_left]
    rfl
theorem X1 (x:Nat) (w:World) (hx:x<4294967296):Calls Tryz.prog 128 #[.int .u64 x,.int .i64 4] w fun e w'=>e=.returned (Qv (fixB x 4))∧Below w.heap.size w w':=by
 refine Qj (args:=[.int .u64 x,.int .i64 4]) 22 fz128 Z Z Z<|Qt [(0,.int .u64 x),(1,.int .i64 4)] ?_ ⟨Z,Z,tvA⟩
 have bw:=Below.refl w.heap.size w
 refine Qa<|sa Z Z<|Wn<|tN<|Qa<|sa Z Z<|Wn<|tN<|Qe<|Qa<|sa Z Z<|Wn<|tN<|Qp<|JG (fun nw1_ lw1_ w1=>∃ i:Nat,∃ v:Value,nw1_=4-i∧lw1_=([(0,.int .u64 (x / 256 ^ i:Nat)),(1,.int .i64 4),(5,v),(6,.int .i64 i)]:Env)∧(i≤4)∧(Below w.heap.size w w1)∧(Row w1 5 1 v i ((fixB x i).map bv))∧(∀ k,v.ownBlock=some k→w.heap.size≤k)) _ ⟨_,⟨0,.slice none 0 0,Z,Z,by omega,bw,Row.nil _ _ _,(fun k hk=>by simp [Value.ownBlock] at hk)⟩,⟨by rw [Nat.pow_zero,Nat.div_one]; rfl,Z,Z,Z,tvA⟩⟩ ?_
 clear bw;rintro nw1_ lw1_ w1 ⟨i,v,rfl,rfl,hi,bw,hR,hO⟩;have zz1:=bw.size
 refine Qe<|Qa<|sm Z Z<|sm Z Z<|st (QJ Z Z) Z<|Wn<|tN<|Qx Z (fun h9=>?_) (fun h9=>?_)
 ·replace h9:=Qs h9
  obtain ⟨y,hy⟩:∃ y,x / 256 ^ i=y:=⟨_,rfl⟩
  have hxi:y≤4294967295:=by have:=Nat.div_le_self x (256 ^ i); omega
  rw [hy]
  have hbt:(UInt8.ofNat (y%256)).toNat=y%256:=by simp
  refine Qf<|tN<|Qe<|Qp<|Qa<|sm Z Z<|sm Z Z<|st (Yc Z Z Qb Qb) Z<|st (QM (m:=(y:Int)%256) (z:=((UInt8.ofNat (y%256)).toNat:Int)) Z uz151 uz5 (by rw [hbt]; exact IntWalk.u8_in _ Qb)) Z ?_
  refine Zy Z uz114 inf5 Z Z QF QF Z (fun g16 w2 hR16 hg16 hb=>?_);replace bw:=Ql bw hb;replace hR:=hR.bel hb;have zz2:=hb.size;clear hb;have hl16:=hR16.blt QF;refine Z4 Z Z uz114 inf5 Z QF hR (hR16.reads.src uz114 (by intro u hu; simp [Value.cells] at hu; subst hu; rfl)) (by simp only [maxLen]; omega) Qb Z (fun v' w3 hR' hC hv'=>?_);have hbn:=KM bw hC hO;have hOn:=JE hv' hO (by have:=bw.size; omega)
  have hRn:Row w3 5 1 v' (i+1) ((fixB x (i+1)).map bv):=by
   rw [← fixB_snoc,hy,List.map_append];exact hR'
  clear bw hR hR16;have bw:=hbn
  refine sa Z Z<|Wn<|tN<|Qw<|sm Z Z ?_
  have hdv:(y:Int) / 256=((x / 256 ^ (i+1):Nat):Int):=by
   rw [Nat.pow_succ,← Nat.div_div_eq_div_mul,hy]
   rfl
  refine st (Qqe (z:=(y:Int) / 256) Z Z Qb (by rw [Int.tdiv_eq_ediv_of_nonneg Qb]; exact IntWalk.u64_in _ Qb)) Z ?_
  refine sa Z Z<|Wn<|bN<|tN<|Qw<|sm Z Z<|st (Qn Z Z Qb) Z<|sa Z Z<|Wn<|tN ⟨_,_,?_,⟨i+1,v',Z,Z,by omega,bw,hRn,hOn⟩,⟨by rw [hdv]; rfl,Z,Z,Z,tvA⟩⟩
  omega
 ·replace h9:=Qs h9
  obtain rfl:i=4:=by omega
  refine QQ<|tE<|tE<|bH<|tN<|Qa<|sm Z Z<|st (Zs (s:=fixB x 4) Z uz114 uz5 uz9 hR.reads) Z<|sa Z Z<|Wn<|tN<|Qg ?_
  exact (rT Z Z ⟨Z,bw⟩).1
theorem Qqt {k:UInt8} {s1:List UInt8} {m:Nat}:((YR s1 m).2.2≠0→(JP (k::s1) 1 m).2.2=(YR s1 m).2.2)∧((YR s1 m).2.2=0→JP (k::s1) 1 m=((YR s1 m).1,1+(YR s1 m).2.1,0)):=by
 have hk:=uvM_len s1 0 0;have hd:(k::s1).drop 1=s1:=rfl
 obtain ⟨u,hu⟩:∃ u,uvM 0 0 s1=u:=⟨_,rfl⟩
 rw [hu] at hk;obtain ⟨n,q,e⟩:=u;simp only at hk
 by_cases he:e=0
 ·subst he
  have hR:X2 (k::s1) 1 0=(n,1+q,0):=by unfold X2; rw [if_neg Q0,hd,hu]; exact if_pos rfl
  have hP:YR s1 m=if m<n then ([],0,12) else if s1.length-q<n then ([],0,10) else ((s1.drop q).take n,q+n,0):=by unfold YR; rw [hu]; exact if_neg Q0
  have hX:JP (k::s1) 1 m=if m<n then ([],1,12) else if (k::s1).length-(1+q)<n then ([],1,10) else Jr (k::s1) (1+q) 0 n:=by unfold JP; rw [hR]; exact if_neg Q0
  have hl:(k::s1).length-(1+q)=s1.length-q:=by simp only [List.length_cons]; omega
  rw [hP,hX,hl]
  by_cases h1:m<n
  ·rw [if_pos h1,if_pos h1];exact ⟨fun _=>rfl,fun h=>absurd h Q0⟩
  ·rw [if_neg h1,if_neg h1]
   by_cases h2:s1.length-q<n
   ·rw [if_pos h2,if_pos h2];exact ⟨fun _=>rfl,fun h=>absurd h Q0⟩
   ·rw [if_neg h2,if_neg h2];refine ⟨fun h=>absurd Z h,fun _=>?_⟩;unfold Jr;rw [if_neg Q0,hl,if_neg h2,show 1+q=q+1 by omega,List.drop_succ_cons]
    show (_,_,_)=(_,_,_)
    rw [show q+1+n=1+(q+n) by omega]
 ·have hR:X2 (k::s1) 1 0=(0,1,e):=by unfold X2; rw [if_neg Q0,hd,hu]; exact if_neg he
  have hP:YR s1 m=([],0,e):=by unfold YR; rw [hu]; exact if_pos he
  have hX:JP (k::s1) 1 m=([],1,e):=by unfold JP; rw [hR]; exact if_pos he
  rw [hP,hX];exact ⟨fun _=>rfl,fun h=>absurd h he⟩
theorem Qeh (s:List UInt8) (w:World) (hs:s.length≤1099511627776):Calls Tryz.prog 105 #[Qv s] w fun e w'=>e=.returned (Qkb (QG s))∧Below w.heap.size w w':=by
 unfold QG
 cases hse:s with
 | nil =>
  rw [if_pos rfl]
  refine Qj (args:=[Qv []]) 51 fz105 Z Z Z<|Qt [(0,Qv [])] ?_ ⟨Z,tvA⟩
  have bw:=Below.refl w.heap.size w
  refine Qa<|sa Z Z<|sa Z Z<|sa Z Z<|sa Z Z<|Wn<|tN<|Qe<|Qa<|sm Z Z<|st (KR Z Z) Z<|Wn<|tN<|QO Z (Z)<|Qa<|sa Z Z<|sa Z Z<|sa Z Z<|sa Z Z<|Wn<|tN<|Qg<|tR ?_
  exact (r4T Z Z Z Z Z ⟨Z,bw⟩).1
 | cons k s1 =>
  have hsame:=Qqt (k:=k) (s1:=s1) (m:=1048576);rw [← hse] at hsame ⊢
  have hne:s≠[]:=by rw [hse]; simp
  have hk:s.headD 0=k:=by rw [hse]; rfl
  have hg0:s.getD 0 0=k:=by rw [hse]; rfl
  have hd1:s.drop 1=s1:=by rw [hse]; rfl
  have hsl:s.length=s1.length+1:=by rw [hse]; rfl
  have hT:=Qwv s1 1048576 w Qb Qb;rw [if_neg hne,hk]
  obtain ⟨p,hp⟩:∃ p,YR s1 1048576=p:=⟨_,rfl⟩
  have hpn:p.2.1≤s1.length:=by
   rw [← hp];have hk:=uvM_len s1 0 0;unfold YR
   split
   ·exact Nat.zero_le _
   split
   ·exact Nat.zero_le _
   split
   ·exact Nat.zero_le _
   ·simp only
    omega
  rw [hp] at hT hsame;obtain ⟨body,n,e⟩:=p;simp only at hT hsame hpn
  refine Qj (args:=[Qv s]) 51 fz105 Z Z Z<|Qt [(0,Qv s)] ?_ ⟨Z,tvA⟩
  have bw:=Below.refl w.heap.size w
  refine Qa<|sa Z Z<|sa Z Z<|sa Z Z<|sa Z Z<|Wn<|tN<|Qe<|Qa<|sm Z Z<|st (KR Z Z) Z<|Wn<|tN<|QX Z (decide_eq_false hne)<|Qf<|tN<|Qe<|Qa<|sm Z Z<|st (Ys (q:=0) Z Z uz9 Z Qb) Z ?_
  rw [hg0]
  refine st (QL Z Z) Z<|Wn<|tN<|Qx Z (fun h13=>?_) (fun h13=>?_)
  ·replace h13:=Qs h13;rw [if_pos (by apply UInt8.toNat.inj; show k.toNat=0; omega)]
   refine Qa<|sa Z Z<|sa Z Z<|sa Z Z<|sa Z Z<|Wn<|tN<|Qg<|tR ?_
   exact (r4T Z Z Z Z Z ⟨Z,bw⟩).1
  ·replace h13:=Qs h13;rw [if_neg (fun e=>h13 (by rw [e]; rfl))]
   refine Qf<|tN<|Qa<|sm Z Z<|st (Ka (s:=s) (i:=1) Z Z uz9 Z Qb) Z ?_
   rw [hd1]
   refine sc _ Tryz.func144 Z Qo Z Z<|(hT).mono ?_
   rintro e_ w_ ⟨rfl,rfl⟩
   refine cR<|sm Z Z<|st (Qu Z Z) Z<|st (Qu Z Z) Z<|st (Qu Z Z) Z<|sa Z Z<|sa Z Z<|sa Z Z<|Wn<|tN<|Qe<|Qa<|sm Z Z<|st (QC Z Z) Z<|Wn<|tN<|Qx Z (fun h22=>?_) (fun h22=>?_)
   ·replace h22:=Qs h22;rw [if_pos (by rw [hsame.1 h22]; exact h22),hsame.1 h22]
    refine Qa<|sm Z Z<|sa Z Z<|sa Z Z<|sa Z Z<|sa Z Z<|Wn<|tN<|Qg<|tR ?_
    exact (r4T Z Z Z Z Z ⟨Z,bw⟩).1
   ·replace h22:=Qs h22;obtain rfl:e=0:=Classical.byContradiction h22;rw [hsame.2 rfl];simp only [ne_eq,not_true_eq_false,if_false]
    refine Qf<|tN<|Qe<|Qa<|sm Z Z<|st (QP Z Z uz9) Z<|sm Z Z<|st (Qn Z Z Qb) Z<|st (Qn Z Z Qb) Z<|st (QJ Z Z) Z<|Wn<|tN<|Qx Z (fun h29=>?_) (fun h29=>?_)
    ·replace h29:=Qs h29;rw [if_pos Qb]
     refine Qa<|sa Z Z<|sa Z Z<|sa Z Z<|sa Z Z<|Wn<|tN<|Qg<|tR ?_
     exact (r4T Z Z Z Z Z ⟨Z,bw⟩).1
    ·replace h29:=Qs h29
     have hl4:¬s.length-(1+n)<4:=by omega
     rw [if_neg hl4];have hcl:=(Crc.crc (s.take (1+n))).toNat_lt
     have hx4:((s.drop (1+n)).take 4).length=4:=by rw [List.length_take,List.length_drop]; omega
     refine Qf<|tN<|Qe<|QS (fun _=>True) [0,1,2,3,7,8,9,10,11,12,13,4,5,6,14] [Y,Y,Y,Y,Y,Y,Y,Y,Y,Y,Y,false,Y,false,Y] Qo Qo (trivial) ?_
     obtain ⟨w1,hw_,hb⟩:=QN w;rw [← hw_];clear hw_;have hS:True:=trivial;replace bw:=Ql bw hb;have zz1:=hb.size;clear hb
     refine oY Z (fun G U=>(Qd Z)) Z<|oY Z (fun G U=>(Qd Z)) Z<|oY Z (fun G U=>(Qn Z Z Qb)) Z<|oY Z (fun G U=>(KQ (s:=s) (j:=1+n) Z Z uz9 Qb Qb)) Z<|oY Z (fun G U=>(Qd Z)) Z<|oY Z (fun G U=>(Qd Z)) Z<|oY Z (fun G U=>(Qn Z Z Qb)) Z<|oY Z (fun G U=>(Qd Z)) Z<|oY Z (fun G U=>(Qn Z Z Qb)) Z<|oY Z (fun G U=>(Qn Z Z Qb)) Z<|oY Z (fun G U=>(Qiq (s:=s) (i:=1+n) (j:=1+n+4) Z Z Z uz9 Qb Qb Qb Qb)) Z<|oL Z (fun Q_ hQ_ hP_=>(sc _ fz129 Z Qo Z Z ((KV (s.take (1+n)) _ (by rw [List.length_take]; omega)).mono ?_)))
     rintro e_ w_ ⟨rfl,rfl⟩
     refine cR<|Wn<|hQ_ _ _ trivial ?_
     clear hQ_ hP_ Q_
     refine oY Z (fun G U=>(QM (m:=((Crc.crc (s.take (1+n))).toNat:Int)) (z:=((Crc.crc (s.take (1+n))).toNat:Int)) Z uz143 uz151 (IntWalk.u64_in _ Qb))) Z<|oL Z (fun Q_ hQ_ hP_=>(sc _ fz128 Z Qo Z Z (Q3 (X1 (Crc.crc (s.take (1+n))).toNat _ Qb) fun w2 hb=>?_)))
     replace bw:=Ql bw hb;have zz2:=hb.size;clear hb
     refine Wn<|hQ_ _ _ trivial ?_
     clear hQ_ hP_ Q_
     refine oY Z (fun G U=>(Y7 Z Z)) Z<|oN<|nN<|Qx Z (fun h44=>?_) (fun h44=>?_)
     ·replace h44:=Qs h44
      have hsum:leN ((s.drop (1+n)).take 4)≠(Crc.crc (s.take (1+n))).toNat:=fun e=>h44 (by rw [List.drop_take,Nat.add_sub_cancel_left]; exact (Qhk hx4 Qb).2 e)
      rw [if_pos hsum]
      refine Qa<|sa Z Z<|sa Z Z<|sa Z Z<|sa Z Z<|Wn<|tN<|Qg<|tR ?_
      exact (r4T Z Z Z Z Z ⟨Z,bw⟩).1
     ·replace h44:=Qs h44;have hsum:leN ((s.drop (1+n)).take 4)=(Crc.crc (s.take (1+n))).toNat:=(Qhk hx4 Qb).1 (by have h:=Decidable.of_not_not h44; rw [List.drop_take,Nat.add_sub_cancel_left] at h; exact h);rw [if_neg (fun h=>h hsum)]
      refine Qf<|tN<|Qa<|sm Z Z<|st (Ys (q:=0) Z Z uz9 Z Qb) Z ?_
      rw [hg0]
      refine sm Z Z<|sm Z Z<|st (Qn Z Z Qb) Z<|st (Qn Z Z Qb) Z<|sa Z Z<|sa Z Z<|sa Z Z<|sa Z Z<|Wn<|tN<|Qg ?_
      exact (r4T Z Z Z Z Z ⟨Z,bw⟩).1
end
section
open Go.RowKit
def uvF:Nat→Nat→List UInt8
  | 0,_=>[]
  | n+1,x=>if x<128 then [UInt8.ofNat (x%256)] else (UInt8.ofNat (x%256) ||| 128)::uvF n (x / 128)
def Xi (x:Nat):List UInt8:=uvF 10 x
theorem Qbv {n x:Nat} (hn:0<n) (h:x<128):uvF n x=[UInt8.ofNat (x%256)]:=by
 obtain ⟨m,rfl⟩:∃ m,n=m+1:=⟨n-1,by omega⟩
 rw [uvF,if_pos h]
theorem Qgi {n x:Nat} (hn:0<n) (h:¬x<128):uvF n x=[UInt8.ofNat (x%256) ||| 128]++uvF (n-1) (x / 128):=by
 obtain ⟨m,rfl⟩:∃ m,n=m+1:=⟨n-1,by omega⟩
 rw [uvF,if_neg h]
 rfl
theorem uv_step {k x:Nat} (hk:k≤9) (h:x<2 ^ (64-7*k)) (h8:128≤x):k+1≤9∧x / 128<2 ^ (64-7*(k+1)):=by
 have:k=0∨k=1∨k=2∨k=3∨k=4∨k=5∨k=6∨k=7∨k=8∨k=9:=by omega
 rcases this with rfl|rfl|rfl|rfl|rfl|rfl|rfl|rfl|rfl|rfl
 all_goals (simp only [Nat.reduceMul,Nat.reduceSub,Nat.reducePow,Nat.reduceAdd] at h ⊢; omega)
section
variable {l:Env} {x:Operand} {p:Option Addr} {t' ty:TypeId} {w:World}
theorem wrNeP (w:World) (a:Addr):(binOp .neq 181 (.pointer (some a)) (.pointer none)).run Tryz.prog w=.ok (.bool true) w:=by kernel_rfl
theorem wrEqP (w:World) (a:Addr):(binOp .eql 181 (.pointer (some a)) (.pointer none)).run Tryz.prog w=.ok (.bool false) w:=by kernel_rfl
theorem X.wrNe {a:Addr} (hx:ev l x=some (.pointer (some a))):X Tryz.prog l (.binOp .neq 181 x (.const (.pointer none)) t') ty w (.bool true) w :=
 JJ hx rfl ZM (wrNeP w a)
theorem X.wrEq {a:Addr} (hx:ev l x=some (.pointer (some a))):X Tryz.prog l (.binOp .eql 181 x (.const (.pointer none)) t') ty w (.bool false) w :=
 JJ hx rfl ZM (wrEqP w a)
end
theorem uvB_length:∀ (x:Nat),x<100000000→(Xi x).length≤4:=by
 intro x hx;unfold Xi;rw [uvF]
 split
 ·simp
 rw [uvF]
 split
 ·simp
 rw [uvF]
 split
 ·simp
 rw [uvF]
 split
 ·simp
 ·omega
structure WrAt (w:World) (B g:Nat) (t:List UInt8):Prop where
  ge:B≤g
  is:∃ v,Blk w g 140 #[v]∧Row w 5 1 v t.length (t.map bv)∧∀ k,v.ownBlock=some k→B≤k
theorem WrAt.bel {w w':World} {B g:Nat} {t:List UInt8} (h:WrAt w B g t) (hb:Below w.heap.size w w'):WrAt w' B g t:=by
 obtain ⟨h1,v,h2,h3,h4⟩:=h;exact ⟨h1,v,h2.bel hb,h3.bel hb,h4⟩
theorem WrAt.lt {w:World} {B g:Nat} {t:List UInt8} (h:WrAt w B g t):g<w.heap.size:=by
 obtain ⟨h1,v,h2,h3,h4⟩:=h;exact h2.lt
theorem Xf (B g:Nat) (t m:List UInt8) (u:Value) (w:World) (h:WrAt w B g t) (hu:Reads w 1 u m.length (m.map bv)) (hl:t.length+m.length≤4398046511104) :
  Calls Tryz.prog 117 #[.pointer (some ⟨g,0,none⟩),u] w fun e w'=>e=.returned (.tuple #[])∧WrAt w' B g (t++m)∧Chg (fun k=>B≤k) w w':=by
 obtain ⟨hge,v,hB,hR,hvo⟩:=h;have hlt:=hB.lt
 refine Qj (args:=[.pointer (some ⟨g,0,none⟩),u]) 15 fz117 Z Z Z<|Qt [(0,.pointer (some ⟨g,0,none⟩)),(1,u)] ?_ ⟨Z,Z,tvA⟩
 have hcw:=Chg.refl (fun k=>B≤k) w
 refine Qa<|sm Z Z<|st (X.wrNe Z) Z<|Wn<|tN<|QO Z (Z)<|Qw<|sm Z Z<|sm Z Z<|st (Qc Z) Z<|st (Qk Qhx Z) Z<|st (Qi Z hB uz114 Z Z) Z<|sm Z Z<|Z4 Z Z uz114 inf5 Z QF hR (hu.src uz114 (Y5 m)) (by simp only [maxLen]; omega) Qb Z (fun v' w1 hR2 hC2 hv=>?_)
 obtain ⟨a',c',rfl,_,_⟩:=hR2.shape;have zz1:=hC2.size;replace hB:=hB.chg hC2 (fun hk=>hR.ne2 hB QF _ hk rfl);have hne:=hR2.ne2 hB QF;replace hcw:=hcw.next hC2 (fun i hi=>.inl (hvo i hi));replace hR:=hR2;clear hC2 hR2
 refine st (Qc Z) Z<|st (Qk Qhx Z) Z<|KL Z Z hB siz114 Z (by first|decide|simp) (fun w2 bB cC=>?_)
 replace hB:=bB;clear bB;replace hR:=hR.chg cC Z5;replace hcw:=hcw.next cC KO;have zz2:=cC.size;clear cC
 refine Wn<|(r0 Z ⟨Z,⟨hge,_,hB,?_,?_⟩,hcw⟩).2
 ·rw [List.map_append,List.length_append]; exact hR
 ·intro k hk
  rcases hv with hv|hv
  ·exact hvo k (hv▸hk)
  ·rw [hv] at hk;injection hk with hk
   omega
section
variable (B g:Nat) (t:List UInt8) (w:World) (h:WrAt w B g t)
include h
theorem WU8_any (x:UInt8) (hl:t.length≤1099511627776):Calls Tryz.prog 75 #[.pointer (some ⟨g,0,none⟩),.int .u8 x.toNat] w fun e w'=>e=.returned (.tuple #[])∧WrAt w' B g (t++[x])∧Chg (fun k=>B≤k) w w':=by
 have hlt:=h.lt;have hge:=h.ge
 refine Qj (args:=[.pointer (some ⟨g,0,none⟩),.int .u8 x.toNat]) 8 Tryz.func75 Z Z Z<|Qt [(0,.pointer (some ⟨g,0,none⟩)),(1,.int .u8 x.toNat)] ?_ ⟨Z,Z,tvA⟩
 have hcw:=Chg.refl (fun k=>B≤k) w
 refine Qw<|sm Z Z<|sm Z Z<|Zy Z uz114 inf5 Z Z QF QF Z (fun g6 w1 hR6 hg6 hb=>?_)
 replace hcw:=hcw.then_below hb;replace h:=h.bel hb;have zz1:=hb.size;clear hb;have hl6:=hR6.blt QF
 refine sc _ fz117 Z Qo Z Z<|(Xf B g t [x] _ _ h hR6.reads (by simp; omega)).mono ?_
 clear h;rintro e_ w2 ⟨rfl,h,hC⟩;refine cR ?_;replace hcw:=hcw.next hC KO;have zz2:=hC.size;clear hC;refine Wn ?_;exact (r0 Z ⟨Z,h,hcw⟩).2
theorem Qwn (m:List UInt8) (hl:t.length≤1099511627776) (hm:m.length≤1099511627776):Calls Tryz.prog 119 #[.pointer (some ⟨g,0,none⟩),Qv m] w fun e w'=>e=.returned (.tuple #[])∧WrAt w' B g (t++m)∧Chg (fun k=>B≤k) w w':=by
 have hlt:=h.lt;have hge:=h.ge
 refine Qj (args:=[.pointer (some ⟨g,0,none⟩),Qv m]) 8 Tryz.func119 Z Z Z<|Qt [(0,.pointer (some ⟨g,0,none⟩)),(1,Qv m)] ?_ ⟨Z,Z,tvA⟩
 have hcw:=Chg.refl (fun k=>B≤k) w
 refine Qw<|sm Z Z<|sm Z Z<|scb (s:=m) Z uz9 uz114 uz5 Qb Z (fun gv cv w1 hR hgv hgl hb=>?_)
 replace h:=h.bel hb;replace hcw:=hcw.then_below hb;have zz1:=hb.size;clear hb
 refine sc _ fz117 Z Qo Z Z<|(Xf B g t m _ _ h hR Qb).mono ?_
 clear h;rintro e_ w2 ⟨rfl,h,hC⟩;refine cR ?_;replace hcw:=hcw.next hC KO;have zz2:=hC.size;clear hC;refine Wn ?_;exact (r0 Z ⟨Z,h,hcw⟩).2
theorem Qss (x:Nat) (hl:t.length≤1099511627776) (hx:x<18446744073709551616):Calls Tryz.prog 118 #[.pointer (some ⟨g,0,none⟩),.int .u64 x] w fun e w'=>e=.returned (.tuple #[])∧WrAt w' B g (t++Xi x)∧Chg (fun k=>B≤k) w w':=by
 have hlt:=h.lt;have hge:=h.ge
 refine Qj (args:=[.pointer (some ⟨g,0,none⟩),.int .u64 x]) 19 Tryz.func118 Z Z Z<|Qt [(0,.pointer (some ⟨g,0,none⟩)),(1,.int .u64 x)] ?_ ⟨Z,Z,tvA⟩
 have hcw:=Chg.refl (fun k=>B≤k) w
 refine Qe<|Qp<|JG (fun nw1_ lw1_ w1=>∃ y:Nat,∃ m:List UInt8,nw1_=0+y∧lw1_=([(0,.pointer (some ⟨g,0,none⟩)),(1,.int .u64 y)]:Env)∧(y<2 ^ (64-7*m.length))∧(m.length≤9)∧(Xi x=m++uvF (10-m.length) y)∧(WrAt w1 B g (t++m))∧(Chg (fun k=>B≤k) w w1)) _ ⟨_,⟨x,[],Z,Z,by simpa using hx,by simp,Z,by rw [List.append_nil]; exact h,hcw⟩,⟨Z,Z,tvA⟩⟩ ?_
 clear hcw;rintro nw1_ lw1_ w1 ⟨y,m,rfl,rfl,hy,hm9,hub,h,hcw⟩;have hlt2:=h.lt;have zz1:=hcw.size;have hml:(t++m).length=t.length+m.length:=List.length_append;have hy64:y<18446744073709551616:=Nat.lt_of_lt_of_le hy (Nat.pow_le_pow_right QF (show 64-7*m.length≤64 by omega))
 have hbt:(UInt8.ofNat (y%256)).toNat=y%256:=by simp
 refine Qe<|Qa<|sm Z Z<|st (Z1 Z Z) Z<|Wn<|tN<|Qx Z (fun h5=>?_) (fun h5=>?_)
 ·replace h5:=Qs h5;have hst:=uv_step hm9 hy Qb
  refine Qf<|tN<|Qe<|Qp<|Qw<|sm Z Z<|sm Z Z<|st (QM (m:=(y:Int)) (z:=((UInt8.ofNat (y%256)).toNat:Int)) Z uz151 uz5 (by rw [hbt,w8]; omega)) Z ?_
  refine st (Zn Q0 Z Z (or_u8 _ 128)) Z ?_;refine Zy Z uz114 inf5 Z Z QF QF Z (fun g12 w2 hR12 hg12 hb=>?_);replace hcw:=hcw.then_below hb;replace h:=h.bel hb;have zz2:=hb.size;clear hb;have hl12:=hR12.blt QF
  refine sc _ fz117 Z Qo Z Z<|(Xf B g (t++m) [UInt8.ofNat (y%256) ||| 128] _ _ h hR12.reads (by simp; omega)).mono ?_
  clear h;rintro e_ w3 ⟨rfl,h,hC⟩;refine cR ?_;replace hcw:=hcw.next hC KO;have zz3:=hC.size;clear hC
  refine Wn<|bN<|tN<|Qw<|sm Z Z<|st (V6 (q:=128) Z Z QF QF Z Z) Z<|sa Z Z<|Wn<|tN ⟨_,_,?_,⟨y / 128,m++[UInt8.ofNat (y%256) ||| 128],Z,Z,by rw [List.length_append]; exact hst.2,by rw [List.length_append]; exact hst.1,by rw [hub,Qgi Qb Qb,List.append_assoc,List.length_append,Nat.sub_sub]; rfl,by rw [← List.append_assoc]; exact h,hcw⟩,⟨Z,Z,tvA⟩⟩
  omega
 ·replace h5:=Qs h5
  refine QQ<|tE<|tE<|bH<|tN<|Qw<|sm Z Z<|sm Z Z<|st (QM (m:=(y:Int)) (z:=((UInt8.ofNat (y%256)).toNat:Int)) Z uz151 uz5 (by rw [hbt,w8]; omega)) Z ?_
  refine Zy Z uz114 inf5 Z Z QF QF Z (fun g17 w4 hR17 hg17 hb=>?_);replace hcw:=hcw.then_below hb;replace h:=h.bel hb;have zz4:=hb.size;clear hb;have hl17:=hR17.blt QF
  refine sc _ fz117 Z Qo Z Z<|(Xf B g (t++m) [UInt8.ofNat (y%256)] _ _ h hR17.reads (by simp; omega)).mono ?_
  clear h;rintro e_ w5 ⟨rfl,h,hC⟩;refine cR ?_;replace hcw:=hcw.next hC KO;have zz5:=hC.size;clear hC;refine Wn ?_
  have hub2:Xi x=m++[UInt8.ofNat (y%256)]:=by rw [hub,Qbv Qb Qb]
  rw [List.append_assoc,← hub2] at h;exact (r0 Z ⟨Z,h,hcw⟩).2
theorem Qst (m:List UInt8) (hl:t.length≤1000000) (hm:m.length≤10000000):Calls Tryz.prog 76 #[.pointer (some ⟨g,0,none⟩),Qv m] w fun e w'=>e=.returned (.tuple #[])∧WrAt w' B g (t++(Xi m.length++m))∧Chg (fun k=>B≤k) w w':=by
 have hlt:=h.lt;have hge:=h.ge;have hul:=uvB_length m.length Qb
 refine Qj (args:=[.pointer (some ⟨g,0,none⟩),Qv m]) 12 Tryz.func76 Z Z Z<|Qt [(0,.pointer (some ⟨g,0,none⟩)),(1,Qv m)] ?_ ⟨Z,Z,tvA⟩
 have hcw:=Chg.refl (fun k=>B≤k) w
 refine Qa<|sm Z Z<|sm Z Z<|st (QP Z Z uz9) Z<|st (QM (m:=(m.length:Int)) (z:=(m.length:Int)) Z uz3 uz151 (IntWalk.u64_in _ Qb)) Z<|sc _ Tryz.func118 Z Qo Z Z<|(Qss B g t _ h m.length Qb Qb).mono ?_
 clear h;rintro e_ w1 ⟨rfl,h,hC⟩;refine cR ?_;replace hcw:=hcw.next hC KO;have zz1:=hC.size;clear hC
 refine Wn<|tN<|Qw<|sm Z Z<|sm Z Z<|sc _ Tryz.func119 Z Qo Z Z<|(Qwn B g (t++Xi m.length) _ h m (by rw [List.length_append]; omega) Qb).mono ?_
 clear h;rintro e_ w2 ⟨rfl,h,hC⟩;refine cR ?_;replace hcw:=hcw.next hC KO;have zz2:=hC.size;clear hC;refine Wn ?_;rw [List.append_assoc] at h;exact (r0 Z ⟨Z,h,hcw⟩).2
theorem Qor (x n:Nat) (hl:t.length≤1099511627776) (hn:n≤8) (hx:x<18446744073709551616):Calls Tryz.prog 120 #[.pointer (some ⟨g,0,none⟩),.int .u64 x,.int .i64 n] w fun e w'=>e=.returned (.tuple #[])∧WrAt w' B g (t++fixB x n)∧Chg (fun k=>B≤k) w w':=by
 have hlt:=h.lt;have hge:=h.ge
 refine Qj (args:=[.pointer (some ⟨g,0,none⟩),.int .u64 x,.int .i64 n]) 17 Tryz.func120 Z Z Z<|Qt [(0,.pointer (some ⟨g,0,none⟩)),(1,.int .u64 x),(2,.int .i64 n)] ?_ ⟨Z,Z,Z,tvA⟩
 have hcw:=Chg.refl (fun k=>B≤k) w
 refine Qa<|sm Z Z<|sm Z Z<|Wn<|tN<|Qp<|JG (fun nw1_ lw1_ w1=>∃ i:Nat,nw1_=n-i∧lw1_=([(0,.pointer (some ⟨g,0,none⟩)),(1,.int .u64 (x / 256 ^ i:Nat)),(6,.int .i64 n),(7,.int .i64 i)]:Env)∧(i≤n)∧(WrAt w1 B g (t++fixB x i))∧(Chg (fun k=>B≤k) w w1)) _ ⟨_,⟨0,Z,Z,by omega,by rw [fixB,List.append_nil]; exact h,hcw⟩,⟨Z,by rw [Nat.pow_zero,Nat.div_one]; rfl,Z,Z,tvA⟩⟩ ?_
 clear hcw;rintro nw1_ lw1_ w1 ⟨i,rfl,rfl,hi,h,hcw⟩;have hlt2:=h.lt;have zz1:=hcw.size
 have hml:(t++fixB x i).length=t.length+i:=by rw [List.length_append,fixB_length]
 have hfl:=fixB_length x i
 refine Qa<|st (QJ Z Z) Z<|Wn<|tN<|Qe<|Qx Z (fun h8=>?_) (fun h8=>?_)
 ·replace h8:=Qs h8
  obtain ⟨y,hy⟩:∃ y,x / 256 ^ i=y:=⟨_,rfl⟩
  have hxi:y<18446744073709551616:=by have:=Nat.div_le_self x (256 ^ i); omega
  rw [hy]
  have hbt:(UInt8.ofNat (y%256)).toNat=y%256:=by simp
  refine Qf<|tN<|Qe<|Qp<|Qa<|sm Z Z<|sm Z Z<|st (QM (m:=(y:Int)) (z:=((UInt8.ofNat (y%256)).toNat:Int)) Z uz151 uz5 (by rw [hbt,w8]; omega)) Z ?_
  refine Zy Z uz114 inf5 Z Z QF QF Z (fun g12 w2 hR12 hg12 hb=>?_);replace hcw:=hcw.then_below hb;replace h:=h.bel hb;have zz2:=hb.size;clear hb;have hl12:=hR12.blt QF
  refine sc _ fz117 Z Qo Z Z<|(Xf B g (t++fixB x i) [UInt8.ofNat (y%256)] _ _ h hR12.reads (by simp; omega)).mono ?_
  clear h;rintro e_ w3 ⟨rfl,h,hC⟩;refine cR ?_;replace hcw:=hcw.next hC KO;have zz3:=hC.size;clear hC;rw [← hy] at h ⊢
  refine Wn<|tN<|Qw<|sm Z Z<|st (V6 (q:=256) Z Z QF QF Z Z) Z<|sa Z Z<|Wn<|bN<|tN<|Qw<|st (Qn Z Z Qb) Z<|sm Z Z<|Wn<|tN ⟨_,_,?_,⟨i+1,Z,Z,by omega,by rw [← fixB_snoc,← List.append_assoc]; exact h,hcw⟩,⟨Z,by rw [Nat.pow_succ,← Nat.div_div_eq_div_mul]; rfl,Z,Z,tvA⟩⟩
  omega
 ·replace h8:=Qs h8
  refine QQ<|tE<|tE<|bH ?_
  obtain rfl:i=n:=by omega
  exact (r0 Z ⟨Z,h,hcw⟩).2
theorem Qwm (x:Nat) (hl:t.length≤1099511627776) (hx:x<4294967296):Calls Tryz.prog 77 #[.pointer (some ⟨g,0,none⟩),.int .u32 x] w fun e w'=>e=.returned (.tuple #[])∧WrAt w' B g (t++fixB x 4)∧Chg (fun k=>B≤k) w w':=by
 have hlt:=h.lt;have hge:=h.ge
 refine Qj (args:=[.pointer (some ⟨g,0,none⟩),.int .u32 x]) 8 Tryz.func77 Z Z Z<|Qt [(0,.pointer (some ⟨g,0,none⟩)),(1,.int .u32 x)] ?_ ⟨Z,Z,tvA⟩
 have hcw:=Chg.refl (fun k=>B≤k) w
 refine Qw<|sm Z Z<|sm Z Z<|st (QM (m:=(x:Int)) (z:=(x:Int)) Z uz143 uz151 (IntWalk.u64_in _ Qb)) Z<|sc _ Tryz.func120 Z Qo Z Z<|(Qor B g t _ h x 4 hl Qb Qb).mono ?_
 clear h;rintro e_ w1 ⟨rfl,h,hC⟩;refine cR ?_;replace hcw:=hcw.next hC KO;have zz1:=hC.size;clear hC;refine Wn ?_;exact (r0 Z ⟨Z,h,hcw⟩).2
theorem WString_any:Calls Tryz.prog 79 #[.pointer (some ⟨g,0,none⟩)] w fun e w'=>e=.returned (Qv t)∧w=w':=by
 obtain ⟨hge,v,hB,hR,hvo⟩:=h
 refine Qj (args:=[.pointer (some ⟨g,0,none⟩)]) 10 Tryz.func79 Z Z Z<|Qt [(0,.pointer (some ⟨g,0,none⟩))] ?_ ⟨Z,tvA⟩
 refine Qa<|sa Z Z<|Wn<|tN<|Qe<|Qa<|sm Z Z<|st (X.wrEq Z) Z<|Wn<|tN<|QX Z (Z)<|Qf<|tN<|Qa<|sm Z Z<|st (Qc Z) Z<|st (Qk Qhx Z) Z<|st (Qi Z hB uz114 Z Z) Z<|st (Zs (s:=t) Z uz114 uz5 uz9 hR.reads) Z<|sa Z Z<|Wn<|tN<|Qg ?_
 exact (rT Z Z ⟨Z,Z⟩).1
end
def KN (k:UInt8) (b:List UInt8):List UInt8:=if k=0∨1048576<b.length then [] else ([k]++(Xi b.length++b))++fixB (Crc.crc ([k]++(Xi b.length++b))).toNat 4
theorem Hc (k:UInt8) (b:List UInt8) (w:World) (hl:b.length≤1099511627776):Calls Tryz.prog 27 #[.int .u8 k.toNat,Qv b] w fun e w'=>e=.returned (Qv (KN k b))∧Below w.heap.size w w':=by
 unfold KN
 refine Qj (args:=[.int .u8 k.toNat,Qv b]) 21 fz27 Z Z Z<|Qt [(0,.int .u8 k.toNat),(1,Qv b)] ?_ ⟨Z,Z,tvA⟩
 have hcw:=Chg.refl (fun k=>w.heap.size≤k) w
 refine Qa<|sa Z Z<|Wn<|tN<|Qe<|Qa<|sm Z Z<|st (QL Z Z) Z<|sb Z Z (fun h8=>?_) (fun h8=>?_)
 ·replace h8:=Qs h8;rw [if_pos (.inl (by apply UInt8.toNat.inj; show k.toNat=0; omega))]
  refine gN Z Z Z Z<|gN Z Z Z Z<|gN Z Z Z Z<|st (Qm Z Z) Z<|Wn<|tN<|QO Z (Z)<|Qa<|sa Z Z<|Wn<|tN<|Qg<|tR ?_
  exact (rT Z Z ⟨Z,hcw.below (Nat.le_refl _) (fun _ h=>h)⟩).1
 ·replace h8:=Qs h8
  have hk0:k≠0:=fun e=>h8 (by rw [e]; rfl)
  refine gY Z Z Z<|sm Z Z<|gY Z Z Z<|st (QP Z Z uz9) Z<|gY Z Z Z<|st (Jg Z Z) Z<|st (Qq Z Z) Z<|Wn<|tN<|Qx Z (fun h12=>?_) (fun h12=>?_)
  ·replace h12:=Qs h12;rw [if_pos (.inr Qb)]
   refine Qa<|sa Z Z<|Wn<|tN<|Qg<|tR ?_
   exact (rT Z Z ⟨Z,hcw.below (Nat.le_refl _) (fun _ h=>h)⟩).1
  ·replace h12:=Qs h12;rw [if_neg (fun e=>by rcases e with e|e; exact hk0 e; omega)]
   refine Qf<|tN<|Qa<|Jm inf140 Z (fun g5 w1 hB5 hg5 hb hl5=>?_)
   replace hcw:=hcw.then_below hb;have zz1:=hb.size;clear hb
   refine Wn<|tN<|Qa ?_
   have h:WrAt w1 w.heap.size g5 []:=⟨by omega,_,hB5,Row.nil _ _ _,by simp [Value.ownBlock]⟩
   have hul:=uvB_length b.length Qb;clear hB5
   refine sm Z Z<|sc _ Tryz.func75 Z Qo Z Z<|(WU8_any _ _ [] _ h k Q0).mono ?_
   clear h;rintro e_ w2 ⟨rfl,h,hC⟩;refine cR ?_;replace hcw:=hcw.next hC KO;have zz2:=hC.size;clear hC
   refine Wn<|tN<|Qa<|sm Z Z<|sc _ Tryz.func76 Z Qo Z Z<|(Qst _ _ ([]++[k]) _ h b Q0 Qb).mono ?_
   clear h;rintro e_ w3 ⟨rfl,h,hC⟩;refine cR ?_;replace hcw:=hcw.next hC KO;have zz3:=hC.size;clear hC
   obtain ⟨p,hp⟩:∃ p,[k]++(Xi b.length++b)=p:=⟨_,rfl⟩
   have hpl:p.length=1+((Xi b.length).length+b.length):=by rw [← hp]; simp; omega
   rw [List.nil_append,hp] at h;rw [hp]
   refine Wn<|tN<|Qa<|sc _ Tryz.func79 Z Qo Z Z<|(WString_any _ _ _ _ h).mono ?_
   rintro e_ w_ ⟨rfl,rfl⟩
   refine cR<|sc _ fz78 Z Qo Z Z (Q3 (Qbp p _ Qb) fun w4 hb=>?_)
   replace hcw:=hcw.then_below hb;replace h:=h.bel hb;have zz4:=hb.size;clear hb;have hcl:=(Crc.crc p).toNat_lt
   refine sc _ Tryz.func77 Z Qo Z Z<|(Qwm _ _ p _ h (Crc.crc p).toNat Qb Qb).mono ?_
   clear h;rintro e_ w5 ⟨rfl,h,hC⟩;refine cR ?_;replace hcw:=hcw.next hC KO;have zz5:=hC.size;clear hC
   refine Wn<|tN<|Qa<|sc _ Tryz.func79 Z Qo Z Z<|(WString_any _ _ _ _ h).mono ?_
   rintro e_ w_ ⟨rfl,rfl⟩
   refine cR<|sa Z Z<|Wn<|tN<|Qg ?_
   exact (rT Z Z ⟨Z,hcw.below (Nat.le_refl _) (fun _ h=>h)⟩).1
end
section
open Go.RowKit
theorem Qts {s:List UInt8} {t n:Nat} {e:Int} (h:1≤t):1≤(Jr s t e n).2.1:=by
 unfold Jr
 by_cases he:e≠0
 ·rw [if_pos he]; exact h
 ·rw [if_neg he]
  by_cases hl:s.length-t<n
  ·rw [if_pos hl]; exact h
  ·rw [if_neg hl]; simp only; omega
theorem KX {s:List UInt8} (h:(QG s).2.2.2=0):5≤(QG s).2.2.1∧(QG s).2.2.1≤s.length:=by
 unfold QG at h ⊢
 split at h
 ·simp at h
 rename_i h1
 rw [if_neg h1]
 split at h
 ·simp at h
 rename_i h2
 rw [if_neg h2]
 split at h
 ·rename_i h3
  exact absurd h h3
 rename_i h3
 rw [if_neg h3]
 split at h
 ·simp at h
 rename_i h4
 rw [if_neg h4]
 split at h
 ·simp at h
 rename_i h5
 rw [if_neg h5]
 have hl:1≤s.length:=by
  cases s with
  | nil=>exact absurd rfl h1
  | cons x l=>simp
 have ha:1≤(JP s 1 1048576).2.1:=by
  unfold JP
  have hu:1≤(X2 s 1 0).2.1:=by
   unfold X2;rw [if_neg Q0]
   split
   ·simp only; omega
   ·exact Nat.le_refl _
  split
  ·exact hu
  ·split
   ·exact Nat.le_refl _
   ·split
    ·exact Nat.le_refl _
    ·exact Qts hu
 simp only
 omega
theorem UV (s:List UInt8):(QG s).2.1.length≤s.length:=by
 unfold QG
 split
 ·simp
 split
 ·simp
 split
 ·simp
 split
 ·simp
 split
 ·simp
 ·simp only;unfold JP
  split
  ·simp
  split
  ·simp
  split
  ·simp
  unfold Jr
  split
  ·simp
  ·simp only [List.length_take,List.length_drop]
   omega
theorem Qkc {s:List UInt8} (h:(QG s).2.2.2=0):(QG s).2.1.length+5≤(QG s).2.2.1:=by
 unfold QG at h ⊢
 split at h
 ·simp at h
 rename_i h1
 rw [if_neg h1]
 split at h
 ·simp at h
 rename_i h2
 rw [if_neg h2]
 split at h
 ·rename_i h3
  exact absurd h h3
 rename_i h3
 rw [if_neg h3]
 split at h
 ·simp at h
 rename_i h4
 rw [if_neg h4]
 split at h
 ·simp at h
 rename_i h5
 rw [if_neg h5]
 have ha:(JP s 1 1048576).1.length+1≤(JP s 1 1048576).2.1:=by
  have hu:1≤(X2 s 1 0).2.1:=by
   unfold X2;rw [if_neg Q0]
   split
   ·simp only; omega
   ·exact Nat.le_refl _
  unfold JP at h3 ⊢
  split at h3
  ·rename_i h6
   exact absurd (by simpa using h3) h6
  rename_i h6
  rw [if_neg h6]
  split at h3
  ·simp at h3
  rename_i h7
  rw [if_neg h7]
  split at h3
  ·simp at h3
  rename_i h8
  rw [if_neg h8];unfold Jr;rw [if_neg Q0,if_neg h8];simp only [List.length_take,List.length_drop]
  omega
 simp only
 omega
end
namespace Sha
def JY (x n:UInt32):UInt32:=(x >>> n) ||| (x <<< (32-n))
def s0 (x:UInt32):UInt32:=JY x 7 ^^^ JY x 18 ^^^ (x >>> 3)
def s1 (x:UInt32):UInt32:=JY x 17 ^^^ JY x 19 ^^^ (x >>> 10)
def be (a b c d:UInt8):UInt32:=((a.toUInt32 <<< 24 ||| b.toUInt32 <<< 16) ||| c.toUInt32 <<< 8) ||| d.toUInt32
def Qme (s:List UInt8) (t:Nat):UInt32:=be (s.getD (4*t) 0) (s.getD (4*t+1) 0) (s.getD (4*t+2) 0) (s.getD (4*t+3) 0)
def Je (s:List UInt8):Nat→List UInt32
  | 0=>[]
  | t+1=>Je s t++[Qme s t]
def ext (l:List UInt32) (t:Nat):UInt32:=s1 (l.getD (t-2) 0)+l.getD (t-7) 0+s0 (l.getD (t-15) 0)+l.getD (t-16) 0
def Zq (l:List UInt32):Nat→List UInt32
  | 0=>l
  | j+1=>Zq l j++[ext (Zq l j) (16+j)]
structure St where
  a:UInt32
  b:UInt32
  c:UInt32
  d:UInt32
  e:UInt32
  f:UInt32
  g:UInt32
  h:UInt32
def kTab:List UInt32:=[
  0x428a2f98,0x71374491,0xb5c0fbcf,0xe9b5dba5,0x3956c25b,0x59f111f1,0x923f82a4,0xab1c5ed5,
  0xd807aa98,0x12835b01,0x243185be,0x550c7dc3,0x72be5d74,0x80deb1fe,0x9bdc06a7,0xc19bf174,
  0xe49b69c1,0xefbe4786,0x0fc19dc6,0x240ca1cc,0x2de92c6f,0x4a7484aa,0x5cb0a9dc,0x76f988da,
  0x983e5152,0xa831c66d,0xb00327c8,0xbf597fc7,0xc6e00bf3,0xd5a79147,0x06ca6351,0x14292967,
  0x27b70a85,0x2e1b2138,0x4d2c6dfc,0x53380d13,0x650a7354,0x766a0abb,0x81c2c92e,0x92722c85,
  0xa2bfe8a1,0xa81a664b,0xc24b8b70,0xc76c51a3,0xd192e819,0xd6990624,0xf40e3585,0x106aa070,
  0x19a4c116,0x1e376c08,0x2748774c,0x34b0bcb5,0x391c0cb3,0x4ed8aa4a,0x5b9cca4f,0x682e6ff3,
  0x748f82ee,0x78a5636f,0x84c87814,0x8cc70208,0x90befffa,0xa4506ceb,0xbef9a3f7,0xc67178f2]
def begin_:St:=⟨0x6a09e667,0xbb67ae85,0x3c6ef372,0xa54ff53a,0x510e527f,0x9b05688c,0x1f83d9ab,0x5be0cd19⟩
def t1 (v:St) (k w:UInt32):UInt32:=v.h+(JY v.e 6 ^^^ JY v.e 11 ^^^ JY v.e 25)+((v.e &&& v.f) ^^^ (~~~v.e &&& v.g))+k+w
def t2 (v:St):UInt32:=(JY v.a 2 ^^^ JY v.a 13 ^^^ JY v.a 22)+((v.a &&& v.b) ^^^ (v.a &&& v.c) ^^^ (v.b &&& v.c))
def round (v:St) (k w:UInt32):St:=⟨t1 v k w+t2 v,v.a,v.b,v.c,v.d+t1 v k w,v.e,v.f,v.g⟩
def J2 (ws:List UInt32) (v:St):Nat→St
  | 0=>v
  | t+1=>round (J2 ws v t) (kTab.getD t 0) (ws.getD t 0)
def XG (x y:St):St:=⟨x.a+y.a,x.b+y.b,x.c+y.c,x.d+y.d,x.e+y.e,x.f+y.f,x.g+y.g,x.h+y.h⟩
def Yv (s:List UInt8):List UInt32:=Zq (Je s 16) 48
def block (v:St) (s:List UInt8):St:=XG v (J2 (Yv s) v 64)
def absorbN:Nat→St→List UInt8→St×List UInt8
  | 0,v,l=>(v,l)
  | n+1,v,l=>absorbN n (block v (l.take 64)) (l.drop 64)
def JM (v:St) (l:List UInt8):St×List UInt8:=absorbN (l.length / 64) v l
def ZJ (len:Nat):Nat:=(119-len%64)%64
def KD (n i:Nat):UInt8:=UInt8.ofNat (n*8 / 2 ^ (8*i))
def VN (n:Nat):Nat→List UInt8
  | 0=>[]
  | j+1=>VN n j++[KD n (7-j)]
def pad (len n:Nat):List UInt8:=128::(List.replicate (ZJ len) 0++VN n 8)
def Qqq (x:UInt32):List UInt8:=[(x >>> 24).toUInt8,(x >>> 16).toUInt8,(x >>> 8).toUInt8,x.toUInt8]
def St.words (v:St):List UInt32:=[v.a,v.b,v.c,v.d,v.e,v.f,v.g,v.h]
def St.bytes (v:St):List UInt8:=v.words.flatMap Qqq
def Qjk (v:St) (rest:List UInt8) (n:Nat):List UInt8:=(JM v (rest++pad rest.length n)).1.bytes
def sha (m:List UInt8):List UInt8:=Qjk (JM begin_ m).1 (JM begin_ m).2 m.length
theorem Qdx (v:St) (l:List UInt8) (h:l.length<64):JM v l=(v,l):=by
 unfold JM;rw [show l.length / 64=0 from by omega]
 rfl
theorem XH (v:St) (l:List UInt8) (h:64≤l.length):JM v l=JM (block v (l.take 64)) (l.drop 64):=by
 unfold JM;rw [show l.length / 64=(l.drop 64).length / 64+1 from by rw [List.length_drop]; omega]
 rfl
theorem Qdy (n:Nat):∀ (v:St) (l:List UInt8),(absorbN n v l).2.length=l.length-64*n:=by
 induction n with
 | zero=>intro v l; rfl
 | succ n ih=>intro v l; simp only [absorbN]; rw [ih,List.length_drop]; omega
theorem Vb (v:St) (l:List UInt8):(JM v l).2.length=l.length%64:=by
 unfold JM;rw [Qdy]
 omega
theorem Qeq (n:Nat):∀ (v:St) (l s:List UInt8),l.length / 64=n→JM (JM v l).1 ((JM v l).2++s)=JM v (l++s):=by
 induction n with
 | zero =>
  intro v l s h;rw [Qdx v l Qb]
 | succ n ih =>
  intro v l s h
  have hl:64≤l.length:=by omega
  rw [XH v l hl,ih _ _ _ (by rw [List.length_drop]; omega),XH v (l++s) (by rw [List.length_append]; omega)];rw [List.take_append_of_le_length hl,List.drop_append_of_le_length hl]
theorem Qin (v:St) (l s:List UInt8):JM (JM v l).1 ((JM v l).2++s)=JM v (l++s):=Qeq _ v l s rfl
end Sha
end Go.Proofs.YtgiccohjijhfkaaGreatDoor
