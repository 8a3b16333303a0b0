/- Part 7. -/
import Derived.Lib.ItoaNum
import Derived.ChangeKeysEq
import Derived.WideKeyRuns
import Derived.Sort.Grow
import Derived.Shelf.SlSortCmp.NoneTotal
import Derived.Test.YtgiccohjijhfkaaGreatDoorPackPlaysP6
set_option maxRecDepth 100000
set_option maxHeartbeats 4000000
namespace Go.Proofs.YtgiccohjijhfkaaGreatDoor
section
open Go.RowKit Sha
def QU (n:Int):Bool:=decide (0≤n∧n≤999999)
def d10 (n:Nat):UInt8:=UInt8.ofNat (48+n%10)
def dig:Nat→Nat→List UInt8
  | 0,_=>[]
  | k+1,n=>dig k (n / 10)++[d10 n]
theorem dig_length:∀ k n,(dig k n).length=k
 | 0,_=>rfl
 | k+1,n=>by rw [dig,List.length_append,dig_length]; rfl
theorem dig_zero:∀ k,dig k 0=List.replicate k 48
 | 0=>rfl
 | k+1=>by rw [dig,Nat.zero_div,dig_zero k,List.replicate_succ']; rfl
theorem dig_cons:∀ k n,dig (k+1) n=d10 (n / 10 ^ k)::dig k n
 | 0,n=>by simp [dig]
 | k+1,n=>by
  rw [dig,dig_cons k (n / 10),Nat.div_div_eq_div_mul,← Nat.pow_succ']
  rfl
theorem dig_dec:∀ k n,n<10 ^ (k+1)→(Lib.decDigits n).length≤k+1∧List.replicate (k+1-(Lib.decDigits n).length) 48++Lib.decDigits n=dig (k+1) n:=by
 intro k
 induction k with
 | zero =>
  intro n h;rw [Lib.decDigits_one (by simpa using h)];refine ⟨Nat.le_refl _,?_⟩;simp only [dig,d10,List.length_singleton,List.nil_append];rw [Nat.mod_eq_of_lt (by simpa using h)]
  rfl
 | succ k ih =>
  intro n h
  by_cases h1:n<10
  ·rw [Lib.decDigits_one h1];refine ⟨by simp,?_⟩;rw [dig,Nat.div_eq_of_lt h1,dig_zero];simp only [d10,List.length_singleton];rw [Nat.mod_eq_of_lt h1]
   rfl
  ·obtain ⟨h2,h3⟩:=ih (n / 10) (by rw [Nat.pow_succ] at h; omega);rw [Lib.decDigits,dif_neg h1];refine ⟨by simp; omega,?_⟩;rw [List.length_append,List.length_singleton,show k+1+1-((Lib.decDigits (n / 10)).length+1)=k+1-(Lib.decDigits (n / 10)).length by omega,← List.append_assoc,h3]
   rfl
def six (n:Nat):List UInt8:=dig 6 n
theorem six_dec {n:Nat} (h:n≤999999):(Lib.decDigits n).length≤6∧List.replicate (6-(Lib.decDigits n).length) 48++Lib.decDigits n=six n:=dig_dec 5 n Qb
def KB (kind:List UInt8) (n:Int):List UInt8:=if QU n=true then kind++six n.toNat else []
def packB:List UInt8:=[112,97,99,107,45]
def indexB:List UInt8:=[105,110,100,101,120,45]
def newB:List UInt8:=[46,110,101,119]
def Qz (n:Int):List UInt8:=KB packB n
def Zz (n:Int):List UInt8:=KB indexB n
structure Scn where
  l:List Ent
  good:Nat
  whole:Bool
def Ke (b:List UInt8):Bool:=decide (33≤b.length∧b.length≤1056∧sha (b.drop 32)=b.take 32)
def Xy (l:List Ent) (a:List UInt8):Bool:=l.any fun e=>decide (e.sum=a)
def entP (n:Int) (x:Scn) (b:List UInt8):Ent:=⟨b.take 32,n,x.good,b.length-32⟩
def Yg (n:Int) (x:Scn) (k:UInt8) (b:List UInt8) (z:Nat):Option Scn :=
  if k=2 then (if Ke b=true∧Xy x.l (b.take 32)=false then some ⟨x.l++[entP n x b],x.good+z,x.whole⟩ else none)
  else if k=3 then (if b=JR x.l.length then some ⟨x.l,x.good+z,true⟩ else none)
  else none
def Zo (n:Int) (s:List UInt8) (x:Scn):Option Scn :=
  if x.whole=true then none
  else if (QG (s.drop x.good)).2.2.2≠0 then none
  else Yg n x (QG (s.drop x.good)).1 (QG (s.drop x.good)).2.1 (QG (s.drop x.good)).2.2.1
def ZF (n:Int) (s:List UInt8):Nat→Scn→Scn
  | 0,x=>x
  | k+1,x=>match Zo n s x with
    | none=>x
    | some y=>ZF n s k y
def UC (n:Int) (s:List UInt8):Bool:=decide ((QG s).2.2.2=0∧(QG s).1=1∧(QG s).2.1=JR n)
def Zp (s:List UInt8) (n:Int):Scn×Int :=
  if QU n=false then (⟨[],0,false⟩,1)
  else if UC n s=false then (⟨[],0,false⟩,12)
  else (ZF n s s.length ⟨[],(QG s).2.2.1,false⟩,0)
theorem ZB {n:Int} {s:List UInt8} {x:Scn} (h:Zo n s x=none) (k:Nat):ZF n s k x=x:=by
 cases k with
 | zero=>rfl
 | succ k=>rw [ZF,h]
theorem Qaa {n:Int} {s:List UInt8} {x y:Scn} (h:Zo n s x=some y) {k:Nat} (hk:0<k):ZF n s k x=ZF n s (k-1) y:=by
 obtain ⟨m,rfl⟩:∃ m,k=m+1:=⟨k-1,by omega⟩
 rw [ZF,h]; rfl
theorem Qca {n:Int} {x y:Scn} {k:UInt8} {b:List UInt8} {z:Nat} (h:Yg n x k b z=some y):y.good=x.good+z∧y.l.length≤x.l.length+1:=by
 unfold Yg at h
 split at h
 ·split at h
  ·injection h with h; subst h; exact ⟨rfl,by simp⟩
  ·cases h
 split at h
 ·split at h
  ·injection h with h; subst h; exact ⟨rfl,by simp⟩
  ·cases h
 ·cases h
theorem HK {b:List UInt8} (h:Ke b=true):33≤b.length∧b.length≤1056:=by
 unfold Ke at h;simp only [decide_eq_true_eq] at h;exact ⟨h.1,h.2.1⟩
theorem Qmj {n:Int} {x y:Scn} {k:UInt8} {b:List UInt8} {z:Nat} (h:Yg n x k b z=some y) (hz:b.length+5≤z):38*y.l.length+x.good≤38*x.l.length+y.good:=by
 unfold Yg at h
 split at h
 ·split at h
  ·rename_i h2
   have:=HK h2.1
   injection h with h; subst h;simp only [List.length_append,List.length_cons,List.length_nil]
   omega
  ·cases h
 split at h
 ·split at h
  ·injection h with h; subst h;simp only
   omega
  ·cases h
 ·cases h
theorem Qmm {n:Int} {s:List UInt8} {x y:Scn} (h:Zo n s x=some y):38*y.l.length+x.good≤38*x.l.length+y.good:=by
 unfold Zo at h
 split at h
 ·cases h
 split at h
 ·cases h
 rename_i h1 h2
 exact Qmj h<|Qkc (by simpa using h2)
theorem UM {n:Int} {s:List UInt8} {x y:Scn} (h:Zo n s x=some y) (hx:x.good≤s.length):x.good+5≤y.good∧y.good≤s.length∧y.l.length≤x.l.length+1∧x.whole=false:=by
 unfold Zo at h
 split at h
 ·cases h
 split at h
 ·cases h
 rename_i h1 h2
 have h3:=KX (by simpa using h2:(QG (s.drop x.good)).2.2.2=0);obtain ⟨h4,h5⟩:=Qca h;rw [List.length_drop] at h3;exact ⟨by omega,by omega,h5,by simpa using h1⟩
structure SOk (s:List UInt8) (n:Int) (x:Scn):Prop where
  g:x.good≤s.length
  l:38*x.l.length≤x.good
  s32:Yt x.l
  nd:(x.l.map (·.sum)).Nodup
theorem Qde {l:List Ent} {a:List UInt8} (h:Xy l a=false):∀ e∈l,e.sum≠a:=by
 unfold Xy at h;rw [List.any_eq_false] at h
 exact fun e he=>by simpa using h e he
theorem VE {n:Int} {s:List UInt8} {x y:Scn} (h:Zo n s x=some y) (hx:SOk s n x):SOk s n y:=by
  obtain ⟨h1,h2,h3,_⟩:=UM h hx.g;have h38:=Qmm h;have hl:=hx.l;refine ⟨h2,by omega,?_,?_⟩
  all_goals
    unfold Zo at h
    split at h
    · cases h
    split at h
    · cases h
    unfold Yg at h
    split at h
    · split at h
      · rename_i h5
        injection h with h; subst h
        first
        | exact fun e he=>by
            rcases List.mem_append.1 he with he|he
            · exact hx.s32 e he
            · rw [List.mem_singleton.1 he]
              have:=h5.1
              unfold Ke at this;simp only [decide_eq_true_eq] at this;simp only [entP,List.length_take]
              omega
        | (rw [List.map_append,List.nodup_append]
           exact ⟨hx.nd,by simp,fun a ha b hb e=>by
            obtain ⟨q,hq,rfl⟩:=List.mem_map.1 ha;rw [List.map_singleton,List.mem_singleton] at hb
            exact Qde h5.2 q hq (e.trans hb)⟩)
      · cases h
    split at h
    · split at h
      · injection h with h; subst h
        first|exact hx.s32|exact hx.nd
      · cases h
    · cases h
theorem HH {n:Int} {s:List UInt8}:∀ (k:Nat) {x:Scn},SOk s n x→SOk s n (ZF n s k x)
 | 0,_,hx=>hx
 | k+1,x,hx=>by
  rw [ZF]
  cases h:Zo n s x with
  | none=>exact hx
  | some y=>exact HH k (VE h hx)
theorem SOk.start {n:Int} {s:List UInt8} (h:UC n s=true):SOk s n ⟨[],(QG s).2.2.1,false⟩:=by
 unfold UC at h;simp only [decide_eq_true_eq] at h
 have:=KX h.1
 exact ⟨this.2,by simp,by simp [Yt],by simp⟩
theorem Qjm (s:List UInt8) (n:Int):SOk s n (Zp s n).1:=by
 unfold Zp
 split
 ·exact ⟨by simp,by simp,by simp [Yt],by simp⟩
 split
 ·exact ⟨by simp,by simp,by simp [Yt],by simp⟩
 ·rename_i h1 h2
  exact HH _<|SOk.start (by simpa using h2)
structure Pc where
  kind:UInt8
  body:List UInt8
  pos:Nat
  next:Nat
def Vj (s:List UInt8) (a:Nat):Pc:=⟨(QG (s.drop a)).1,(QG (s.drop a)).2.1,a,a+(QG (s.drop a)).2.2.1⟩
def Kk (s:List UInt8):Nat→Nat→List Pc
  | 0,_=>[]
  | k+1,a=>if (QG (s.drop a)).2.2.2≠0 then [] else Vj s a::Kk s k (a+(QG (s.drop a)).2.2.1)
def Uj (s:List UInt8):List Pc:=Kk s (s.length+1) 0
def ZA (n:Int) (x:Scn) (p:Pc):Option Scn :=
  if p.kind=2 then (if Ke p.body=true∧Xy x.l (p.body.take 32)=false then some ⟨x.l++[⟨p.body.take 32,n,p.pos,p.body.length-32⟩],p.next,x.whole⟩ else none)
  else if p.kind=3 then (if p.body=JR x.l.length then some ⟨x.l,p.next,true⟩ else none)
  else none
def ZR (n:Int) (x:Scn) (p:Pc):Option Scn :=
  if p.pos=0 then (if p.kind=1∧p.body=JR n then some { x with good:=p.next } else none)
  else if x.whole=true then none
  else ZA n x p
def UE (n:Int):Scn→List Pc→Scn
  | x,[]=>x
  | x,p::l=>match ZR n x p with
    | none=>x
    | some y=>UE n y l
def goF (n:Int):Scn→List Pc→Option Scn
  | x,[]=>some x
  | x,p::l=>match ZR n x p with
    | none=>none
    | some y=>goF n y l
theorem Qkx {n:Int}:∀ {l:List Pc} {x y:Scn} {p:Pc},goF n x l=some y→goF n x (l++[p])=ZR n y p
 | [],x,y,p,h=>by
  injection h with h; subst h;simp only [List.nil_append,goF]
  cases ZR n x p <;> rfl
 | q::l,x,y,p,h=>by
  rw [List.cons_append];rw [goF] at h ⊢
  cases hq:ZR n x q with
  | none=>rw [hq] at h; cases h
  | some z=>rw [hq] at h; exact Qkx h
theorem Qky {n:Int}:∀ {l:List Pc} {x y:Scn},goF n x l=some y→UE n x l=y
 | [],x,y,h=>by injection h
 | q::l,x,y,h=>by
  rw [goF] at h;rw [UE]
  cases hq:ZR n x q with
  | none=>rw [hq] at h; cases h
  | some z=>rw [hq] at h; exact Qky h
theorem Qdf {n:Int} {p:Pc}:∀ {l m:List Pc} {x y:Scn},goF n x l=some y→ZR n y p=none→UE n x (l++p::m)=y
 | [],m,x,y,h,hp=>by
  injection h with h; subst h;rw [List.nil_append,UE,hp]
 | q::l,m,x,y,h,hp=>by
  rw [goF] at h;rw [List.cons_append,UE]
  cases hq:ZR n x q with
  | none=>rw [hq] at h; cases h
  | some z=>rw [hq] at h; exact Qdf h hp
theorem Qqz {n:Int} {x y:Scn} {p:Pc} (h:ZR n x p=some y):y.l.length≤x.l.length+1:=by
 unfold ZR at h
 split at h
 ·split at h
  ·injection h with h; subst h; exact Nat.le_succ _
  ·cases h
 split at h
 ·cases h
 unfold ZA at h
 split at h
 ·split at h
  ·injection h with h; subst h; simp
  ·cases h
 split at h
 ·split at h
  ·injection h with h; subst h; exact Nat.le_succ _
  ·cases h
 ·cases h
theorem Qpv {n:Int}:∀ {l:List Pc} {x y:Scn},goF n x l=some y→y.l.length≤x.l.length+l.length
 | [],x,y,h=>by injection h with h; subst h; exact Nat.le_refl _
 | p::l,x,y,h=>by
  rw [goF] at h
  cases hq:ZR n x p with
  | none=>rw [hq] at h; cases h
  | some z =>
   rw [hq] at h;have h1:=Qqz hq;have h2:=Qpv h;rw [List.length_cons]
   omega
def sc0:Scn:=⟨[],0,false⟩
theorem Qtu (n:Int) (s:List UInt8) (x:Scn):ZA n x (Vj s x.good)=Yg n x (QG (s.drop x.good)).1 (QG (s.drop x.good)).2.1 (QG (s.drop x.good)).2.2.1:=rfl
theorem Qfs (n:Int) (s:List UInt8):∀ (k:Nat) (x:Scn),0<x.good→UE n x (Kk s k x.good)=ZF n s k x
 | 0,_,_=>rfl
 | k+1,x,hx=>by
  rw [Kk,ZF];unfold Zo
  by_cases he:(QG (s.drop x.good)).2.2.2≠0
  ·rw [if_pos he]
   by_cases hw:x.whole=true
   ·rw [if_pos hw]; rfl
   ·rw [if_neg hw,if_pos he]; rfl
  ·rw [if_neg he,UE];unfold ZR;rw [if_neg (show (Vj s x.good).pos≠0 by show x.good≠0; omega)]
   by_cases hw:x.whole=true
   ·rw [if_pos hw,if_pos hw]
   ·rw [if_neg hw,if_neg hw,if_neg he,Qtu]
    cases ht:Yg n x (QG (s.drop x.good)).1 (QG (s.drop x.good)).2.1 (QG (s.drop x.good)).2.2.1 with
    | none=>rfl
    | some y =>
     have hg:=(Qca ht).1;simp only;rw [← hg];exact Qfs n s k y Qb
theorem UO {n:Int} (s:List UInt8) (hn:QU n=true):Zp s n=if (UE n sc0 (Uj s)).good=0 then (sc0,12) else (UE n sc0 (Uj s),0):=by
 unfold Zp Uj UC;rw [if_neg (by rw [hn]; decide),Kk,List.drop_zero]
 by_cases he:(QG s).2.2.2=0
 ·rw [if_neg (show ¬(QG s).2.2.2≠0 from fun h=>h he),UE];have hl:=KX he;unfold ZR;rw [if_pos (show (Vj s 0).pos=0 from rfl)]
  have e1:(Vj s 0).kind=(QG s).1:=by simp [Vj]
  have e2:(Vj s 0).body=(QG s).2.1:=by simp [Vj]
  have e3:(Vj s 0).next=(QG s).2.2.1:=by simp [Vj]
  rw [e1,e2,e3]
  by_cases h2:(QG s).1=1∧(QG s).2.1=JR n
  ·rw [if_neg (by simp [he,h2.1,h2.2]),if_pos h2];simp only;rw [Nat.zero_add,show ({ sc0 with good:=(QG s).2.2.1 }:Scn)=⟨[],(QG s).2.2.1,false⟩ from rfl]
   have:=Qfs n s s.length ⟨[],(QG s).2.2.1,false⟩ (by show 0<(QG s).2.2.1; omega)
   simp only at this;rw [this];have hok:=HH (n:=n) (s:=s) s.length (SOk.start (n:=n) (s:=s) (by unfold UC; simp [he,h2.1,h2.2]))
   have hge:∀ (k:Nat) (x:Scn),x.good≤s.length→x.good≤(ZF n s k x).good:=by
    intro k
    induction k with
    | zero=>intro x _; exact Nat.le_refl _
    | succ k ih =>
     intro x hx;rw [ZF]
     cases h:Zo n s x with
     | none=>exact Nat.le_refl _
     | some y =>
      have:=UM h hx
      exact Nat.le_trans Qb<|ih y this.2.1
   have:=hge s.length ⟨[],(QG s).2.2.1,false⟩ hl.2
   simp only at this;rw [if_neg Qb]
  ·rw [if_pos (by simp only [he,true_and]; simpa using h2),if_neg h2]
   rfl
 ·rw [if_pos he,if_pos (by simp [he])]
  rfl
end
section
open Go.RowKit
def Qaf (n:Int):Nat→List UInt8
  | 0=>[]
  | k+1=>Qaf n k++[Kf (n / 256 ^ k)]
theorem wbm (m:Int):IntKind.u8.wrap (m%256)=((Kf m).toNat:Int):=by rw [w8,ZD]; omega
theorem YJ (n:Int) (w:World) (h0:0≤n) (h1:n≤9223372036854775807):Calls Tryz.prog 86 #[.int .i64 n] w fun e w'=>e=.returned (Qv (JR n))∧Below w.heap.size w w':=by
 refine Qj (args:=[.int .i64 n]) 19 fz86 Z Z Z<|Qt [(0,.int .i64 n)] ?_ ⟨Z,tvA⟩
 have bw:=Below.refl w.heap.size w
 refine Qa<|sa Z Z<|Wn<|tN<|Qa<|sa Z Z<|Wn<|tN<|Qe<|Qa<|sa Z Z<|Wn<|tN<|Qp<|JG (fun nw1_ lw1_ w1=>∃ k:Nat,∃ m:Int,nw1_=4-k∧lw1_=([(0,.int .i64 m),(3,Qv (Qaf n k)),(4,.int .i64 k)]:Env)∧(k≤4)∧(m=n / 256 ^ k)∧(0≤m∧m≤9223372036854775807)∧(Below w.heap.size w w1)) _ ⟨_,⟨0,n,Z,Z,by omega,by simp,⟨h0,h1⟩,bw⟩,⟨Z,Z,Z,tvA⟩⟩ ?_
 clear bw;rintro nw1_ lw1_ w1 ⟨k,m,rfl,rfl,hk,hm,hm0,bw⟩;have zz1:=bw.size
 refine Qe<|Qa<|sm Z Z<|st (QJ Z Z) Z<|Wn<|tN<|Qx Z (fun h6=>?_) (fun h6=>?_)
 ·replace h6:=Qs h6
  have hfl:(Qaf n k).length=k:=by clear hm hm0; induction k with|zero=>rfl|succ q ih=>(rw [Qaf,List.length_append,ih Qb Qb]; rfl)
  refine Qf<|tN<|Qe<|Qp<|Qa<|sm Z Z<|sm Z Z<|st (Yc Z Z Qb Qb) Z<|st (QM Z uz3 uz5 (wbm m)) Z<|Zy Z uz114 inf5 Z Z QF QF Z (fun g13 w2 hR13 hg13 hb=>?_)
  replace bw:=Ql bw hb;have zz2:=hb.size;clear hb;have hl13:=hR13.blt QF
  refine st (Zs (s:=[Kf m]) Z uz114 uz5 uz9 hR13.reads) Z<|st (JV Z Z (by rw [hfl]; simp; omega)) Z ?_
  refine sa Z Z<|Wn<|tN<|Qw ?_
  rw [show Qaf n k++[Kf m]=Qaf n (k+1) by rw [hm]; rfl]
  refine sm Z Z<|st (Qqd Z Z Qb Qb Qb) Z<|sa Z Z<|Wn<|bN<|tN<|Qw<|sm Z Z<|st (Qn Z Z Qb) Z<|sa Z Z<|Wn<|tN ⟨_,_,?_,⟨k+1,m / 256,Z,Z,by omega,by rw [hm,Int.pow_succ,Int.ediv_ediv_of_nonneg (Int.pow_nonneg QF)],by omega,bw⟩,⟨Z,Z,Z,tvA⟩⟩
  omega
 ·replace h6:=Qs h6
  refine QQ<|tE<|tE<|bH<|tN<|Qa<|sm Z Z<|sa Z Z<|Wn<|tN<|Qg ?_
  obtain rfl:k=4:=by omega
  refine (rT Z Z ⟨?_,bw⟩).1;rw [show Qaf n 4=JR n by simp [Qaf,JR]]
end
section
open Go.ChangeShapes Go.WideShapes Go.ChangeAt Go.RowKit
theorem info_u8':(Tryz.prog.info? 5).map (fun i=>(i.zero,i.size,i.bytes))=some (some (.int .u8 0),1,1):=by kernel_rfl
theorem cells_u8:Tryz.prog.cellsOf 5=1:=by kernel_rfl
theorem Ur (l:List UInt8) (i:Nat) (h:i<l.length) (W:World):(part 5 (l.map bv).toArray i).run Tryz.prog W=.ok (.int .u8 (l.getD i 0).toNat) W:=by
 have hc:(l.map bv).toArray[i]?=some (.int .u8 (l.getD i 0).toNat):=by
  rw [List.getElem?_toArray,List.getElem?_map,List.getElem?_eq_getElem h];simp [bv,List.getD,List.getElem?_eq_getElem h]
 unfold part;simp only [Sem.run_bind,isAgg,run_underlying uz5,Result.andThen_ok,Sem.run_pure,Bool.false_eq_true,if_false];rw [hc]
 rfl
theorem J9 (d:Nat) (l m:List UInt8) (W:World):∀ is:List Nat,(∀ i∈is,i<l.length∧i<m.length) →
  (Op.eqItems (d+1) 5 1 (l.map bv).toArray (m.map bv).toArray is).run Tryz.prog W=.ok (is.all fun i=>l.getD i 0 == m.getD i 0) W
 | [],_=>by simp [Op.eqItems]
 | i::is,h=>by
  have hi:=h i Q0;have ih:=J9 d l m W is (fun j hj=>h j (by simp [hj]));simp only [Op.eqItems,Sem.run_bind,Nat.mul_one,Ur l i hi.1 W,Ur m i hi.2 W,Result.andThen_ok,run_equalIn_int W d 5 .u8 .u8 _ _ uz5]
  have e:(((l.getD i 0).toNat:Int) == ((m.getD i 0).toNat:Int))=(l.getD i 0 == m.getD i 0):=by
   rw [Bool.eq_iff_iff,beq_iff_eq,beq_iff_eq];exact ⟨fun h=>UInt8.toNat.inj Qb,fun h=>by rw [h]⟩
  rw [e]
  cases hq:(l.getD i 0 == m.getD i 0)
  ·simp only [Bool.not_false,if_true,Sem.run_pure,List.all_cons,hq,Bool.false_and]
  ·simp only [Bool.not_true,Bool.false_eq_true,if_false,ih,List.all_cons,hq,Bool.true_and]
theorem V4 (l m:List UInt8) (n:Nat) (hl:l.length=n) (hm:m.length=n):((List.range n).all fun i=>l.getD i 0 == m.getD i 0)=(l == m):=by
 rw [Bool.eq_iff_iff,List.all_eq_true,beq_iff_eq]
 constructor
 ·intro h
  apply List.ext_getElem Qb
  intro i h1 h2
  have:=h i (by simp; omega)
  simpa [List.getD,List.getElem?_eq_getElem h1,List.getElem?_eq_getElem h2] using this
 ·rintro rfl i _
  simp
theorem Qjo (l m:List UInt8) (hl:l.length=32) (hm:m.length=32) (W:World) :
  (binOp .eql 57 (.agg (l.map bv).toArray) (.agg (m.map bv).toArray)).run Tryz.prog W=.ok (.bool (l == m)) W:=by
 obtain ⟨i0,hi,hz0,hz1,hz2⟩:=info_parts info_u8';simp only [binOp]
 have:=run_equalIn_array (P:=Tryz.prog) W 9999 (l.map bv).toArray (m.map bv).toArray uz57 hi
 rw [cells_u8,J9 9998 l m W (List.range 32) (fun i h=>by simp at h; omega),V4 l m 32 hl hm] at this;simp [Op.equal,Op.maxDepth,this]
theorem Qjn (l m:List UInt8) (hl:l.length=32) (hm:m.length=32) (W:World) :
  (binOp .neq 57 (.agg (l.map bv).toArray) (.agg (m.map bv).toArray)).run Tryz.prog W=.ok (.bool (l != m)) W:=by
 obtain ⟨i0,hi,hz0,hz1,hz2⟩:=info_parts info_u8';simp only [binOp]
 have:=run_equalIn_array (P:=Tryz.prog) W 9999 (l.map bv).toArray (m.map bv).toArray uz57 hi
 rw [cells_u8,J9 9998 l m W (List.range 32) (fun i h=>by simp at h; omega),V4 l m 32 hl hm] at this;simp [Op.equal,Op.maxDepth,this,bne]
end
section
open Go.RowKit
abbrev Sum32:Type:={ l:List UInt8 // l.length=32 }
def Y2 (k:Sum32):Value:=.agg (k.1.map bv).toArray
def Qod (n:Int):Value:=.int .i64 n
theorem Qrp (k:Sum32) (i:Nat) (h:i<32) (w:World):(part 5 (k.1.map bv).toArray i).run Tryz.prog w=.ok (.int .u8 (k.1.getD i 0).toNat) w:=Ur k.1 i (by rw [k.2]; exact h) w
theorem Xm {P:Program} {w:World} (f:Nat→PUnit→Sem (ForInStep PUnit)):∀ l:List Nat,(∀ i∈l,(f i PUnit.unit).run P w=.ok (.yield PUnit.unit) w)→(forIn l PUnit.unit f).run P w=.ok PUnit.unit w
 | [],_=>by simp
 | i::l,h=>by
  have ih:=Xm f l (fun j hj=>h j (by simp [hj]));simp only [List.forIn_cons,Sem.run_bind,h i Q0,Result.andThen_ok];exact ih
theorem Qoi (b:Bool) (n:Nat) (m:Int) (w:World):(Instr.checkKey b (n+1) 5 (.int .u8 m)).run Tryz.prog w=.ok () w:=by
 rw [Instr.checkKey];simp [run_underlying uz5]
theorem Qsk (b:Bool) (k:Sum32) (w:World):(Instr.checkKey b 10000 57 (Y2 k)).run Tryz.prog w=.ok () w:=by
 obtain ⟨i0,hi,hz0,hz1,hz2⟩:=info_parts info_u8';rw [Instr.checkKey];simp only [Sem.run_bind,run_underlying uz57,Result.andThen_ok,Y2];simp only [Std.Legacy.Range.forIn_eq_forIn_range',Std.Legacy.Range.size,Nat.sub_zero,Nat.add_one_sub_one,Nat.div_one];rw [Xm]
 ·rfl
 intro i hi2
 have hi3:i<32:=by simp at hi2; omega
 simp only [Sem.run_bind,run_sizeOf _ hi,Result.andThen_ok,cells_u8,Nat.mul_one,Qrp k i hi3 w,Qoi,Sem.run_pure]
theorem eq_sum (k q:Sum32) (w:World):(Op.equal 57 (Y2 k) (Y2 q)).run Tryz.prog w=.ok (decide (k=q)) w:=by
 obtain ⟨i0,hi,hz0,hz1,hz2⟩:=info_parts info_u8'
 have:=run_equalIn_array (P:=Tryz.prog) w 9999 (k.1.map bv).toArray (q.1.map bv).toArray uz57 hi
 rw [cells_u8,J9 9998 k.1 q.1 w (List.range 32) (fun i h=>by simp at h; rw [k.2,q.2]; omega),V4 k.1 q.1 32 k.2 q.2] at this
 have e:decide (k=q)=(k.1 == q.1):=by rw [Bool.eq_iff_iff,decide_eq_true_eq,beq_iff_eq,Subtype.ext_iff]
 rw [e];exact this
theorem keySum:KeyLaw Tryz.prog 57 Y2 where
 check:=Qsk
 find k ks w:=by
  rw [run_findKey_eq w (by rw [uz57])]
  have key:∀ (ks:List (Sum32×Value×Nat)) (j:Nat),(Instr.findAsking 57 (Y2 k) (ks.map fun p=>(⟨Y2 p.1,p.2.1,p.2.2⟩:MapEntry)) j).run Tryz.prog w=.ok ((ks.findIdx? fun p=>decide (k=p.1)).bind fun i=>(ks[i]?).map fun p=>(i+j,p.2.1)) w:=by
   intro ks
   induction ks with
   | nil=>intro j; simp [Instr.findAsking]
   | cons p ks ih =>
    intro j;simp only [List.map_cons,Instr.findAsking,Sem.run_bind,eq_sum,Result.andThen_ok,List.findIdx?_cons]
    by_cases h:k=p.1
    ·simp [h]
    ·have hd:decide (k=p.1)=false:=decide_eq_false h;simp only [hd,Bool.false_eq_true,if_false,ih (j+1)]
     cases ks.findIdx? fun p=>decide (k=p.1) with
     | none=>rfl
     | some i =>
      simp only [Option.map_some,Option.bind_some,List.getElem?_cons_succ];rw [show i+1+j=i+(j+1) by omega]
  exact key ks 0
 same k:=by
  unfold Y2;rw [Instr.sameBits];simp only [beq_self_eq_true,Bool.true_and,List.all_eq_true];intro p hp;obtain ⟨x,y⟩:=p
  have hxy:x=y:=by
   obtain ⟨i,hi,he⟩:=List.mem_iff_getElem.1 hp;simp only [List.getElem_zip,Prod.mk.injEq] at he;rw [← he.1,← he.2]
  subst hxy;have hm:=(List.of_mem_zip hp).1;simp only [List.mem_map] at hm;obtain ⟨u,_,rfl⟩:=hm;simp [Instr.sameBits,bv]
end
section
open Go.RowKit
theorem Qah (k:Sum32):(k.1.map bv).toArray.size=32:=by have:=k.2; simp [this]
theorem wideT3:Wide Fence.wide:=fun _=>trivial
end
section
open Go.RowKit
def Qdt (a b:List UInt8):Int:=Lib.compareBytes a b
def Grows (w w':World):Prop:=∃ q os,w'=Sort.grow (w.drewN q) os
theorem Grows.bel {w w':World} (h:Grows w w'):Below w.heap.size w w':=by
 obtain ⟨q,os,rfl⟩:=h;refine ⟨Z,Z,Z,?_,fun k hk=>?_⟩
 ·show w.heap.size≤(w.heap++os).size
  rw [Array.size_append]; omega
 ·show (w.heap++os)[k]?=_
  rw [Array.getElem?_append_left hk]
def CmpIs (w:World) (n:Int) (e:Ending) (w':World):Prop:=e=.returned (.int .i64 n)∧Grows w w'
theorem Qfw {w:World} {g:Nat} {t:TypeId} {l:List UInt8} (h:Blk w g t (l.map bv).toArray):∀ j (hj:j<l.length),w.cell? ⟨g,0+j,none⟩=some (.int .u8 (l[j].toNat:Int)):=fun j hj=>by
 rw [Nat.zero_add,h.cell,List.getElem?_toArray,List.getElem?_map,List.getElem?_eq_getElem hj]
 rfl
theorem Grows.refl (w:World):Grows w w:=⟨0,#[],by simp [World.drewN]⟩
theorem Grows.drew {w w':World} (h:Grows w w'):Grows w w'.drew:=by
 obtain ⟨q,os,rfl⟩:=h;exact ⟨q+1,os,Z⟩
theorem Grows.alloc {w w':World} (h:Grows w w') (o:Obj):Grows w (w'.alloc o):=by
 obtain ⟨q,os,rfl⟩:=h;refine ⟨q,os.push o,?_⟩;simp only [World.alloc,Sort.grow,World.drewN,Array.push_eq_append,Array.append_assoc]
theorem Qir {P:Program} {l:Env} {x:Operand} {t ty:TypeId} {w:World} {cs:Array Value} (hx:ev l x=some (.agg cs)):X P l (.box t x) ty w (.pointer (some ⟨w.heap.size,0,none⟩)) (w.alloc (.cells cs t)):=fun ρ hρ=>by
 unfold execOp;simp [hρ _ _ hx,Instr.box,newVar,newRow,Value.cells]
end
section
open Go.RowKit Go.Sort Go.Lib
section
variable {α:Type} [Inhabited α]
theorem Qla (enc:α→List Value) (k:Nat) (hk:∀ x,(enc x).length=k):∀ (l:List α) (j:Nat),j<l.length*k→(l.flatMap enc)[j]?=some ((flatK enc k l.toArray)[j]!)
 | l,j,hj=>by
  have h0:0<k:=by rcases Nat.eq_zero_or_pos k with h|h; subst h; simp at hj; exact h
  have hq:j / k<l.length:=Nat.div_lt_of_lt_mul (by rw [Nat.mul_comm]; exact hj);have hm:j%k<k:=Nat.mod_lt _ h0;rw [get_flatK enc k l.toArray j (by simpa using hj)];have hx:l[j / k]?=some l[j / k]:=List.getElem?_eq_getElem hq;have hf:=VT enc k l (j / k) l[j / k] (fun a _=>hk a) hx
  have e1:(l.flatMap enc)[j]?=(((l.flatMap enc).drop (j / k*k)).take k)[j%k]?:=by
   rw [List.getElem?_take,if_pos hm,List.getElem?_drop]
   congr 1
   have:=Nat.div_add_mod j k
   rw [Nat.mul_comm] at this
   omega
  rw [e1,hf]
  have e2:l.toArray[j / k]! = l[j / k]:=by simp [hq]
  rw [e2,List.getElem?_eq_getElem (by rw [hk]; exact hm)];rw [getElem!_pos _ _ (by rw [hk]; exact hm)]
theorem Qet {w:World} {e:TypeId} {k g o n c:Nat} {enc:α→List Value} (hk:∀ x,(enc x).length=k) {l:List α} (h:Row w e k (.slice (some ⟨g,o,none⟩) n c) n (l.flatMap enc)) (hn:l.length=n):HoldsK enc k w g o l.toArray:=by
 obtain ⟨h1,h2⟩:=h
 rcases h2 with ⟨h2,_⟩|⟨g',o',cap,cur,fz,hv,hg,hc1,hc2,hcs,hx,hz⟩
 ·cases h2
 injection hv with hv _ hcap;injection hv with hv;injection hv with e1 e2;subst e1 e2 hcap;intro j hj;rw [size_flatK] at hj
 have hj':j<n*k:=by rw [← hn]; simpa using hj
 have hle:n*k≤c*k:=Nat.mul_le_mul_right k hc1;have hfg:=Qla enc k hk l j (by rw [hn]; exact hj')
 have hcell:cur[o+j]?=some ((flatK enc k l.toArray)[j]!):=by
  rw [← hfg,← hx,List.getElem?_take,if_pos hj',List.getElem?_drop,Array.getElem?_toList]
 refine ⟨?_,?_⟩
 ·show w.cell? ⟨g,o+j,none⟩=_
  simp only [World.cell?,hg];exact hcell
 ·simp only [World.frozen?,hg]
  have:=hz (o+j) Qb
  simpa using this
theorem Quc {w w':World} {e:TypeId} {k g o n c n':Nat} {enc:α→List Value} (hk:∀ x,(enc x).length=k) {l:List α} (h:Row w e k (.slice (some ⟨g,o,none⟩) n c) n (l.flatMap enc)) (hn:l.length=n) {d':Array α} {os:Array Obj} (hd:d'.size=n) (hw:w'=sortWorldK enc k w g o n' d' os) :
  Row w' e k (.slice (some ⟨g,o,none⟩) n c) n (d'.toList.flatMap enc)∧Chg (fun q=>q=g) w w':=by
 have hH:=Qet hk h hn;obtain ⟨h1,h2⟩:=h
 rcases h2 with ⟨h2,_⟩|⟨g',o',cap,cur,fz,hv,hg,hc1,hc2,hcs,hx,hz⟩
 ·cases h2
 injection hv with hv _ hcap;injection hv with hv;injection hv with e1 e2;subst e1 e2 hcap;have hlt:g<w.heap.size:=(Array.getElem?_eq_some_iff.1 hg).1;have hH':=holdsK_sortWorldK enc k w g o n' l.toArray d' os hlt hH (by rw [hd]; simpa using hn.symm);have hle:n*k≤c*k:=Nat.mul_le_mul_right k hc1
 have hgo:(sortWorldK enc k w g o n' d' os).heap[g]?=some (.cells (putCells id o (flatK enc k d') cur) e fz):=by
  show ((putRow id (Sort.ahead w n') g o (flatK enc k d')).heap++os)[g]?=_
  rw [Array.getElem?_append_left (by rw [size_putRow]; exact hlt)]
  show (w.heap.modify g _)[g]?=_
  rw [Array.getElem?_modify,if_pos rfl,hg]
  rfl
 have hsz:(putCells id o (flatK enc k d') cur).size=cur.size:=by simp [putCells]
 refine ⟨⟨?_,.inr ⟨g,o,c,putCells id o (flatK enc k d') cur,fz,Z,by rw [hw]; exact hgo,hc1,hc2,by rw [hsz]; exact hcs,?_,by rw [hsz]; exact hz⟩⟩,?_⟩
 ·rw [ZZ enc k _ (fun a _=>hk a)]; simp [hd]
 ·apply List.ext_getElem?
  intro j
  by_cases hj:j<n*k
  ·rw [List.getElem?_take,if_pos hj,List.getElem?_drop,Array.getElem?_toList];have h3:=(hH' j (by rw [size_flatK,hd]; exact hj)).1;simp only [World.cell?,hgo] at h3;have h4:=Qla enc k hk d'.toList j (by simpa [hd] using hj);rw [h4];exact h3
  ·rw [List.getElem?_eq_none (by rw [List.length_take]; omega),List.getElem?_eq_none (by rw [ZZ enc k _ (fun a _=>hk a)]; simp [hd]; omega)]
 ·rw [hw];refine ⟨Z,Z,Z,?_,fun q hq hne=>?_⟩
  ·show w.heap.size≤((putRow id (Sort.ahead w n') g o (flatK enc k d')).heap++os).size
   rw [Array.size_append,size_putRow]
   show w.heap.size≤w.heap.size+_
   omega
  ·show ((putRow id (Sort.ahead w n') g o (flatK enc k d')).heap++os)[q]?=_
   rw [Array.getElem?_append_left (by rw [size_putRow]; exact hq)]
   show (w.heap.modify g _)[q]?=_
   rw [Array.getElem?_modify,if_neg (fun e=>hne e.symm)]
end
end
section
open Go.RowKit Go.Shelf
def Qpr (P : Program) (f : FuncId) : String := ((P.funcs[f]?).map (·.name)).getD ""
theorem Qsn {P : Program} {f : FuncId} {B : Func} (h1 : (Qpr P f == "runtime.NumGoroutine") = false) (h2 : P.funcs[f]? = some { B with name := Qpr P f }) : Bears P f B := ⟨_, h1, h2⟩
theorem cmp_lt:∀ a b:List UInt8,Lib.compareBytes a b<0↔a<b
 | [],[]=>by simp [Lib.compareBytes]
 | [],_::_=>by simp [Lib.compareBytes]
 | _::_,[]=>by simp [Lib.compareBytes]
 | x::a,y::b=>by
  have ih:=cmp_lt a b;simp only [Lib.compareBytes,List.cons_lt_cons_iff]
  by_cases h1:x<y
  ·simp [h1]
  ·by_cases h2:y<x
   ·have hne:x≠y:=fun e=>by subst e; exact h1 h2
    simp [h1,h2,hne]
   ·have he:x=y:=by
     apply UInt8.toNat.inj
     rw [UInt8.lt_iff_toNat_lt] at h1 h2
     omega
    subst he;simp only [h1,if_false,false_or,true_and];exact ih
end
section
open Go.RowKit
def Ent.cells (e:Ent):List Value:=e.sum.map bv++[.int .i64 e.pack,.int .i64 e.pos,.int .i64 e.len]
theorem Ent.cells_length {e:Ent} (h:e.sum.length=32):e.cells.length=35:=by simp [Ent.cells,h]
theorem Ent.size {e:Ent} (h:e.sum.length=32):e.cells.toArray.size=35:=by simp [Ent.cells,h]
theorem Qvr {w:World} {g:Nat} {t:TypeId} {x:Ent} (h:Blk w g t x.cells.toArray):w.rangeAt g (0+0) (x.sum.map bv):=fun i v hv=>by
 have hi:=(List.getElem?_eq_some_iff.1 hv).1;rw [Nat.zero_add,h.cell,List.getElem?_toArray];unfold Ent.cells;rw [List.getElem?_append_left hi,hv]
theorem Grows.trans {w w' w'':World} (h:Grows w w') (h':Grows w' w''):Grows w w'':=by
 obtain ⟨q,os,rfl⟩:=h;obtain ⟨q',os',rfl⟩:=h';refine ⟨q+q',os++os',?_⟩;simp [Sort.grow,World.drewN,Array.append_assoc,Nat.add_assoc]
end
section
open Go.RowKit
theorem Qqn (b:UInt8) (w:World):Calls Tryz.prog 232 #[bv b] w fun e w'=>e=.returned (.bool false)∧w'=w:=by
 refine Qj (args:=[.int .u8 (b.toNat:Int)]) 6 Tryz.func232 Z Z Z<|Qt [(0,.int .u8 (b.toNat:Int))] ?_ ⟨Z,tvA⟩
 have bw:=Below.refl w.heap.size w
 refine Qa<|sa Z Z<|Wn<|tN<|Qa<|sm Z Z<|sm Z Z<|st (QC Z Z) Z<|sa Z Z<|Wn<|tN<|Qg ?_
 exact (rT Z Z ⟨by simp,Z⟩).1
def cmpU (a b:UInt8):Int:=if a<b then -1 else if b<a then 1 else 0
theorem Qxp (a b:UInt8) (w:World):Calls Tryz.prog 216 #[bv a,bv b] w fun e w'=>e=.returned (.int .i64 (cmpU a b))∧w'=w:=by
 refine Qj (args:=[.int .u8 (a.toNat:Int),.int .u8 (b.toNat:Int)]) 20 Tryz.func216 Z Z Z<|Qt [(0,.int .u8 (a.toNat:Int)),(1,.int .u8 (b.toNat:Int))] ?_ ⟨Z,Z,tvA⟩
 have bw:=Below.refl w.heap.size w
 refine Qa<|sa Z Z<|Wn<|tN<|Qa<|sm Z Z<|sc _ Tryz.func232 Z Qo Z Z<|(Qqn a _).mono ?_
 rintro e_ w_ ⟨rfl,rfl⟩
 refine cR<|sa Z Z<|Wn<|tN<|Qa<|sm Z Z<|sc _ Tryz.func232 Z Qo Z Z<|(Qqn b _).mono ?_
 rintro e_ w_ ⟨rfl,rfl⟩
 refine cR<|sa Z Z<|Wn<|tN<|Qe<|Qa<|sm Z Z<|Wn<|tN<|QX Z (Z)<|Qf<|tN<|Qe<|Qa<|sm Z Z<|Wn<|tN<|QX Z (Z)<|Qf<|tN<|Qe<|Qa<|sm Z Z<|sm Z Z<|st (QJ Z Z) Z<|Wn<|tN<|Qx Z (fun h16=>?_) (fun h16=>?_)
 ·replace h16:=Qs h16
  refine Qa<|sa Z Z<|Wn<|tN<|Qg<|tR<|(rT Z Z ⟨?_,Z⟩).1
  rw [show cmpU a b=-1 from if_pos (UInt8.lt_iff_toNat_lt.2 Qb)]
 ·replace h16:=Qs h16
  refine Qf<|tN<|Qe<|Qa<|sm Z Z<|sm Z Z<|st (Jg Z Z) Z<|Wn<|tN<|Qx Z (fun h19=>?_) (fun h19=>?_)
  ·replace h19:=Qs h19
   refine Qa<|sa Z Z<|Wn<|tN<|Qg<|tR<|(rT Z Z ⟨?_,Z⟩).1
   rw [show cmpU a b=1 by unfold cmpU; rw [if_neg (fun h=>by have:=UInt8.lt_iff_toNat_lt.1 h; omega),if_pos (UInt8.lt_iff_toNat_lt.2 Qb)]]
  ·replace h19:=Qs h19
   refine Qf<|tN<|Qa<|sa Z Z<|Wn<|tN<|Qg<|(rT Z Z ⟨?_,Z⟩).1
   rw [show cmpU a b=0 by unfold cmpU; rw [if_neg (fun h=>by have:=UInt8.lt_iff_toNat_lt.1 h; omega),if_neg (fun h=>by have:=UInt8.lt_iff_toNat_lt.1 h; omega)]]
theorem Qsj {l1 l2:List UInt8} {j:Nat} {x y:UInt8} (hx:l1[j]?=some x) (hy:l2[j]?=some y):Lib.compareBytes (l1.drop j) (l2.drop j)=if cmpU x y≠0 then cmpU x y else Lib.compareBytes (l1.drop (j+1)) (l2.drop (j+1)):=by
 obtain ⟨h1,rfl⟩:=List.getElem?_eq_some_iff.1 hx;obtain ⟨h2,rfl⟩:=List.getElem?_eq_some_iff.1 hy;rw [List.drop_eq_getElem_cons h1,List.drop_eq_getElem_cons h2];simp only [Lib.compareBytes,cmpU]
 split
 ·simp
 ·split <;> simp
theorem Qwz (g1 o1 c1 g2 o2 c2:Nat) (l1 l2:List UInt8) (w:World) (hl:l1.length=l2.length) (hn:l1.length≤1000000) (h1:∀ j (hj:j<l1.length),w.cell? ⟨g1,o1+j,none⟩=some (.int .u8 (l1[j].toNat:Int))) (h2:∀ j (hj:j<l2.length),w.cell? ⟨g2,o2+j,none⟩=some (.int .u8 (l2[j].toNat:Int))) :
  Calls Tryz.prog 188 #[.slice (some ⟨g1,o1,none⟩) l1.length c1,.slice (some ⟨g2,o2,none⟩) l2.length c2] w fun e w'=>e=.returned (.int .i64 (Lib.compareBytes l1 l2))∧w'=w:=by
 refine Qj (args:=[.slice (some ⟨g1,o1,none⟩) l1.length c1,.slice (some ⟨g2,o2,none⟩) l2.length c2]) 36 Tryz.func188 Z Z Z<|Qt [(0,.slice (some ⟨g1,o1,none⟩) l1.length c1),(1,.slice (some ⟨g2,o2,none⟩) l2.length c2)] ?_ ⟨Z,Z,tvA⟩
 have bw:=Below.refl w.heap.size w
 refine Qa<|sa Z Z<|Wn<|tN<|Qe<|Qa<|sm Z Z<|st (QT Z Z uz114) Z<|sm Z Z<|Wn<|tN<|Qp<|JG (fun nw1_ lw1_ w1=>∃ j:Nat,nw1_=l1.length-j∧lw1_=([(0,.slice (some ⟨g1,o1,none⟩) l1.length c1),(1,.slice (some ⟨g2,o2,none⟩) l2.length c2),(9,.slice (some ⟨g1,o1,none⟩) l1.length c1),(10,.int .i64 l1.length),(11,.int .i64 j)]:Env)∧(j≤l1.length)∧(Lib.compareBytes l1 l2=Lib.compareBytes (l1.drop j) (l2.drop j))∧(w1=w)∧(Below w.heap.size w w1)) _ ⟨_,⟨0,Z,Z,by omega,Z,Z,bw⟩,⟨Z,Z,Z,Z,Z,tvA⟩⟩ ?_
 clear bw;rintro nw1_ lw1_ w1 ⟨j,rfl,rfl,hj,hq,hw,bw⟩;have zz1:=bw.size
 refine Qa<|st (QJ Z Z) Z<|Wn<|tN<|Qe<|Qx Z (fun h12=>?_) (fun h12=>?_)
 ·replace h12:=Qs h12
  obtain ⟨x,hx⟩:∃ x,l1[j]?=some x:=⟨_,List.getElem?_eq_getElem Qb⟩
  obtain ⟨y,hy⟩:∃ y,l2[j]?=some y:=⟨_,List.getElem?_eq_getElem Qb⟩
  have hst:=Qsj hx hy
  have hcx:w.cell? ⟨g1,o1+j,none⟩=some (bv x):=by rw [h1 j Qb,(List.getElem?_eq_some_iff.1 hx).2]; rfl
  have hcy:w.cell? ⟨g2,o2+j,none⟩=some (bv y):=by rw [h2 j Qb,(List.getElem?_eq_some_iff.1 hy).2]; rfl
  refine Qf<|tN<|Qe<|Qp<|Qa<|sm Z Z<|st (QA Z Z uz114 siz5 Z Qb) Z<|st (JS Z uz5 Z (by rw [hw,Nat.mul_one]; exact hcx)) Z ?_
  refine sa Z Z<|sa Z Z<|Wn<|tN<|Qe<|Qa<|sm Z Z<|sm Z Z<|st (QT Z Z uz114) Z<|st (Z1 Z Z) Z<|Wn<|tN<|Qx Z (fun h19=>?_) (fun h19=>?_)
  ·replace h19:=Qs h19
   omega
  ·replace h19:=Qs h19
   refine Qf<|tN<|Qa<|sm Z Z<|sm Z Z<|st (QA Z Z uz114 siz5 Z Qb) Z<|st (JS Z uz5 Z (by rw [hw,Nat.mul_one]; exact hcy)) Z ?_
   refine sa Z Z<|Wn<|tN<|Qa<|sm Z Z<|sm Z Z<|sc _ Tryz.func216 Z Qo Z Z<|(Qxp x y _).mono ?_
   rintro e_ w_ ⟨rfl,rfl⟩
   refine cR<|sa Z Z<|Wn<|tN<|Qa<|sm Z Z<|st (QC Z Z) Z<|Wn<|tN<|Qx Z (fun h28=>?_) (fun h28=>?_)
   ·replace h28:=Qs h28
    refine Qa<|sm Z Z<|sa Z Z<|Wn<|tN<|Qg<|bR<|tR<|tR<|bR<|tR<|(rT Z Z ⟨?_,hw⟩).1
    rw [hq,hst,if_pos h28]
   ·replace h28:=Qs h28
    refine Qf<|bN<|tN<|Qw<|st (Qn Z Z Qb) Z<|sm Z Z<|Wn<|tN ⟨_,_,?_,⟨j+1,Z,Z,by omega,by rw [hq,hst,if_neg h28],hw,bw⟩,⟨Z,Z,Z,Z,Z,tvA⟩⟩
    omega
 ·replace h12:=Qs h12
  refine QQ<|tE<|tE<|bH<|tN<|Qe<|Qa<|sm Z Z<|st (QT Z Z uz114) Z<|sm Z Z<|st (QT Z Z uz114) Z<|st (QJ Z Z) Z<|Wn<|tN<|Qx Z (fun h35=>?_) (fun h35=>?_)
  ·replace h35:=Qs h35
   omega
  ·replace h35:=Qs h35
   refine Qf<|tN<|Qa<|sa Z Z<|Wn<|tN<|Qg ?_
   obtain rfl:j=l1.length:=by omega
   refine (rT Z Z ⟨?_,hw⟩).1;rw [hq,List.drop_length,List.drop_of_length_le Qb]
   rfl
theorem Qaq (a b:List UInt8) (ha:a.length=32) (hb:b.length=32) (w:World) :
  Calls Tryz.prog 165 #[.agg (a.map bv).toArray,.agg (b.map bv).toArray] w (CmpIs w (Qdt a b)):=by
 have k0:Blk ((w.alloc (.cells (a.map bv).toArray 57)).alloc (.cells (b.map bv).toArray 57)) w.heap.size 57 (a.map bv).toArray:=(Blk.new w _ _).alloc _;have k1:Blk ((w.alloc (.cells (a.map bv).toArray 57)).alloc (.cells (b.map bv).toArray 57)) (w.alloc (.cells (a.map bv).toArray 57)).heap.size 57 (b.map bv).toArray:=Blk.new _ _ _;have hG:Grows w ((w.alloc (.cells (a.map bv).toArray 57)).alloc (.cells (b.map bv).toArray 57)):=((Grows.refl w).alloc _).alloc _
 refine Qj (args:=[.agg (a.map bv).toArray,.agg (b.map bv).toArray]) 8 Tryz.func165 Z Z Z<|Qt [(0,.agg (a.map bv).toArray),(1,.agg (b.map bv).toArray)] ?_ ⟨Z,Z,tvA⟩
 refine Qa<|st (Qir Z) Z<|st (Qir Z) Z<|sa Z Z<|Wn<|tN ?_
 generalize (w.alloc (.cells (a.map bv).toArray 57)).heap.size=g2 at k1 ⊢
 generalize (w.alloc (.cells (a.map bv).toArray 57)).alloc (.cells (b.map bv).toArray 57)=w2 at k0 k1 hG ⊢
 refine QS (fun _=>True) [0,1,2,3] [Y,Y,false,Y] Qo Qo trivial<|oY Z (fun G U=>XZ Z uz57 siz5) Z<|oY Z (fun G U=>XZ Z uz57 siz5) Z<|oL Z (fun Q_ hQ_ hP_=>?_)
 have hc:=Qwz w.heap.size 0 32 g2 0 32 a b w2.drew (by rw [ha,hb]) Qb (Qfw k0.drew) (Qfw k1.drew);rw [ha,hb] at hc
 refine sc _ Tryz.func188 Z Qo Z Z<|hc.mono ?_
 rintro e_ w_ ⟨rfl,rfl⟩
 refine cR<|Wn<|hQ_ _ _ trivial<|oY Z (fun G U=>Qy Z) Z<|oN<|nN<|Qg ?_
 exact (rT Z Z ⟨Z,hG.drew⟩).1
theorem Qlz (x y:Ent) (hx:x.sum.length=32) (hy:y.sum.length=32) (w:World) :
  Calls Tryz.prog 164 #[.agg x.cells.toArray,.agg y.cells.toArray] w (CmpIs w (Qdt x.sum y.sum)):=by
 have k0:Blk ((w.alloc (.cells x.cells.toArray 59)).alloc (.cells y.cells.toArray 59)) w.heap.size 59 x.cells.toArray:=(Blk.new w _ _).alloc _;have k1:Blk ((w.alloc (.cells x.cells.toArray 59)).alloc (.cells y.cells.toArray 59)) (w.alloc (.cells x.cells.toArray 59)).heap.size 59 y.cells.toArray:=Blk.new _ _ _;have hG:Grows w ((w.alloc (.cells x.cells.toArray 59)).alloc (.cells y.cells.toArray 59)):=((Grows.refl w).alloc _).alloc _
 refine Qj (args:=[.agg x.cells.toArray,.agg y.cells.toArray]) 10 Tryz.func164 Z Z Z<|Qt [(0,.agg x.cells.toArray),(1,.agg y.cells.toArray)] ?_ ⟨Z,Z,tvA⟩
 refine Qa<|st (Qir Z) Z<|st (Qir Z) Z<|sa Z Z<|Wn<|tN ?_
 generalize (w.alloc (.cells x.cells.toArray 59)).heap.size=g2 at k1 ⊢
 generalize (w.alloc (.cells x.cells.toArray 59)).alloc (.cells y.cells.toArray 59)=w2 at k0 k1 hG ⊢
 refine Qa<|st (Qk Y0 Z) Z<|st (Jw (cs:=x.sum.map bv) Z uz57 Z (by rw [List.length_map,hx]; exact siz57) (Qvr k0)) Z ?_
 refine st (Qk Y0 Z) Z<|st (Jw (cs:=y.sum.map bv) Z uz57 Z (by rw [List.length_map,hy]; exact siz57) (Qvr k1)) Z ?_
 refine sc _ Tryz.func165 Z Qo Z Z<|(Qaq x.sum y.sum hx hy _).mono ?_
 rintro e_ w3 ⟨rfl,hG2⟩
 refine cR<|sa Z Z<|Wn<|tN<|Qg ?_
 exact (rT Z Z ⟨Z,hG.trans hG2⟩).1
end
section
open Go.RowKit Go.Shelf
def sortRenEnt:Ren :=
  { f:=fun x=>match x with|6=>163|15=>168|14=>187|28=>198|29=>199|20=>208|21=>209|22=>210|23=>211|24=>212|25=>213|26=>214|27=>215|46=>229|47=>218|48=>219|49=>230|50=>231|57=>235|n=>n
    t:=fun x=>match x with|22=>77|24=>59|25=>229|3=>3|39=>145|0=>0|53=>143|55=>151|4=>4|46=>256|45=>255|50=>82|5=>5|9=>9|66=>274|70=>277|76=>288|77=>289|n=>n
    g:=fun x=>x }
theorem sortLaysEnt:SlLaysF0.n6 Tryz.prog sortRenEnt:=by
 constructor
 all_goals first|exact Qsn Qo Qo|kernel_rfl|exact fun _=>by kernel_rfl
abbrev Ent32:={ e:Ent // e.sum.length=32 }
def cmpE (x y:Ent32):Int:=Qdt x.1.sum y.1.sum
theorem XU (x y:Ent32):ltOf cmpE x y=decide (x.1.sum<y.1.sum):=by
 unfold ltOf cmpE Qdt;rw [decide_eq_decide];exact cmp_lt x.1.sum y.1.sum
theorem swoEnt:Sort.SWO (ltOf cmpE) where
 irrefl x:=by rw [XU]; exact decide_eq_false (Jt _)
 trans x y z h1 h2:=by rw [XU] at *; exact decide_eq_true (JL (of_decide_eq_true h1) (of_decide_eq_true h2))
 ntrans x y z h1 h2:=by
  rw [XU] at *
  refine decide_eq_false fun h=>?_
  have h1:=of_decide_eq_false h1;have h2:=of_decide_eq_false h2
  rcases Ui x.1.sum y.1.sum with k|k|k
  ·exact h1 k
  ·exact h2 (k▸h)
  ·exact h2<|JL k h
instance:Inhabited Ent32:=⟨⟨⟨List.replicate 32 0,0,0,0⟩,by simp⟩⟩
def encE (k:Ent32):List Value:=k.1.cells
theorem Qdq (k:Ent32):(encE k).length=35:=Ent.cells_length k.2
theorem Qlg (k:Ent32):∀ v∈encE k,v.oneCell'=true:=by
 intro v hv;simp only [encE,Ent.cells,List.mem_append,List.mem_map,List.mem_cons,List.not_mem_nil,or_false] at hv
 rcases hv with ⟨u,_,rfl⟩|rfl|rfl|rfl <;> rfl
theorem Qiu (v:Value) (l:List Ent32) (w:World) (hR:Row w 59 35 v l.length (l.flatMap encE)) (hl:l.length≤1000000) :
  Calls Tryz.prog 163 #[v,.func (.func 164) #[] #[]] w fun e w'=>∃ xs:List Ent32,e=.returned (.tuple #[])∧xs.Perm l∧xs.Pairwise (fun x y=>¬y.1.sum<x.1.sum)∧Row w' 59 35 v xs.length (xs.flatMap encE)∧Chg (fun k=>v.ownBlock=some k) w w':=by
 rcases Nat.eq_zero_or_pos l.length with h0|h0
 ·obtain rfl:l=[]:=List.eq_nil_of_length_eq_zero h0;obtain ⟨a,c,rfl,_,_⟩:=hR.shape;refine (AnyF.slices_SortFunc_none sortLaysEnt a c _ w).mono ?_;rintro e w' ⟨rfl,rfl⟩;exact ⟨[],Z,.refl _,.nil,hR,Chg.refl _ _⟩
 ·obtain ⟨g,o,c,rfl,hg⟩:=hR.reads.some_ h0
  have hcmp:CmpLays Tryz.prog 164 #[] encE 35 cmpE g o l.toArray.size w:=fun m os dk hdk x y=>by
   refine (Qlz x.1 y.1 x.2 y.2 _).mono ?_;rintro e w' ⟨rfl,hG⟩;exact ⟨Z,hG⟩
  have hsz:l.toArray.size=l.length:=by simp
  refine (AnyQ.slices_SortFunc (α:=Ent32) sortLaysEnt 35 (fun _=>by kernel_rfl) (fun _=>by kernel_rfl) encE Qdq Qlg cmpE swoEnt 164 #[] g o c l.toArray w (enters_of Tryz.func164 Qo Z) hcmp (Qet Qdq hR Z) hg (by rw [hsz]; omega)).mono ?_;rintro e w' ⟨rfl,d',n',os,hp,hs,hw⟩
  have hdz:d'.size=l.length:=by rw [hp.1]; exact hsz
  have hperm:d'.toList.Perm l:=by
   have h3:=hp.2.2;rw [hsz] at h3
   have e1:(d'.extract 0 l.length).toList=d'.toList:=by simp [← hdz]
   have e2:(l.toArray.extract 0 l.length).toList=l:=by simp [List.extract_eq_take_drop]
   rw [e1,e2] at h3;exact h3
  obtain ⟨hRow,hC⟩:=Quc Qdq hR rfl hdz hw;refine ⟨d'.toList,Z,hperm,?_,?_,hC.mono (fun k _ hk=>by subst hk; rfl)⟩
  ·rw [List.pairwise_iff_getElem];intro i j hi hj hij
   have hi':i<d'.size:=by simpa using hi
   have hj':j<d'.size:=by simpa using hj
   have h4:=hs i j (Nat.zero_le _) hij (by rw [hsz,← hdz]; exact hj');rw [XU,getElem!_pos d' j hj',getElem!_pos d' i hi'] at h4;have h5:=of_decide_eq_false h4
   simpa only [Array.getElem_toList] using h5
  ·have e3:d'.toList.length=l.length:=by simpa using hdz
   rw [e3];exact hRow
end
section
open Go.RowKit
theorem Qom {p:Int→Bool} {l:List Int} {j:Nat} {x:Int} (h:l[j]?=some x):(l.drop j).all p=(p x && (l.drop (j+1)).all p):=by
 obtain ⟨hj,rfl⟩:=List.getElem?_eq_some_iff.1 h;rw [List.drop_eq_getElem_cons hj,List.all_cons]
theorem May_any (v:Value) (ns:List Int) (w:World) (h:Reads w 1 v ns.length (ns.map (Value.int .i64))):Calls Tryz.prog 162 #[v] w fun e w'=>e=.returned (.bool (ns.all YD))∧Below w.heap.size w w':=by
 obtain ⟨a,cp,rfl,hn,hcp⟩:=h.shape
 refine Qj (args:=[.slice a ns.length cp]) 18 Tryz.func162 Z Z Z<|Qt [(0,.slice a ns.length cp)] ?_ ⟨Z,tvA⟩
 have bw:=Below.refl w.heap.size w
 refine Qa<|sa Z Z<|Wn<|tN<|Qe<|Qa<|sm Z Z<|st (QT Z Z uz42) Z<|sm Z Z<|Wn<|tN<|Qp<|JG (fun nw1_ lw1_ w1=>∃ j:Nat,nw1_=ns.length-j∧lw1_=([(5,.slice a ns.length cp),(6,.int .i64 ns.length),(7,.int .i64 j)]:Env)∧(j≤ns.length)∧(ns.all YD=(ns.drop j).all YD)∧(Below w.heap.size w w1)) _ ⟨_,⟨0,Z,Z,by omega,Z,bw⟩,⟨Z,Z,Z,tvA⟩⟩ ?_
 clear bw;rintro nw1_ lw1_ w1 ⟨j,rfl,rfl,hj,hq,bw⟩;have zz1:=bw.size
 refine Qa<|st (QJ Z Z) Z<|Wn<|tN<|Qe<|Qx Z (fun h8=>?_) (fun h8=>?_)
 ·replace h8:=Qs h8
  obtain ⟨x,hx⟩:∃ x,ns[j]?=some x:=⟨_,List.getElem?_eq_getElem Qb⟩
  have hxv:(ns.map (Value.int .i64))[j]?=some (.int .i64 x):=by rw [List.getElem?_map,hx]; rfl
  obtain ⟨g1,o1,c',hv,hg1⟩:=(h.bel bw).some_ Qb;injection hv with e1 _ e3;subst e1 e3
  refine Qf<|tN<|Qe<|Qp<|Qa<|st (QA Z Z uz42 siz3 Z Qb) Z<|st (JS Z uz3 Z (by rw [Nat.mul_one]; exact (h.bel bw).cellAt Qb hxv)) Z ?_
  refine sa Z Z<|Wn<|tN<|Qa<|sm Z Z<|st (QJ Z Z) Z<|sb Z Z (fun h13=>?_) (fun h13=>?_)
  ·replace h13:=Qs h13
   refine gN Z Z Z Z<|gN Z Z Z Z<|st (Qm Z Z) Z<|Wn<|tN<|QO Z (Z)<|Qa<|sa Z Z<|Wn<|tN<|Qg<|bR<|tR<|tR<|bR<|tR<|(rT Z Z ⟨?_,bw⟩).1
   rw [hq,Qom hx,show YD x=false from decide_eq_false Qb]
   rfl
  ·replace h13:=Qs h13
   refine gY Z Z Z<|sm Z Z<|gY Z Z Z<|st (Jg Z Z) Z<|st (Qq Z Z) Z<|Wn<|tN<|Qx Z (fun h16=>?_) (fun h16=>?_)
   ·replace h16:=Qs h16
    refine Qa<|sa Z Z<|Wn<|tN<|Qg<|bR<|tR<|tR<|bR<|tR<|(rT Z Z ⟨?_,bw⟩).1
    rw [hq,Qom hx,show YD x=false from decide_eq_false Qb]
    rfl
   ·replace h16:=Qs h16
    refine Qf<|bN<|tN<|Qw<|st (Qn Z Z Qb) Z<|sm Z Z<|Wn<|tN ⟨_,_,?_,⟨j+1,Z,Z,by omega,by rw [hq,Qom hx,show YD x=true from decide_eq_true Qb]; rfl,bw⟩,⟨Z,Z,Z,tvA⟩⟩
    omega
 ·replace h8:=Qs h8
  refine QQ<|tE<|tE<|bH<|tN<|Qa<|sa Z Z<|Wn<|tN<|Qg ?_
  obtain rfl:j=ns.length:=by omega
  refine (rT Z Z ⟨?_,bw⟩).1;rw [hq,List.drop_length]
  rfl
theorem eqSlNil (w:World) (a:Addr) (n c:Nat):(binOp .eql 77 (.slice (some a) n c) (.slice none 0 0)).run Tryz.prog w=.ok (.bool false) w:=by kernel_rfl
theorem Qvo (w:World) (n c:Nat):(binOp .eql 77 (.slice none n c) (.slice none 0 0)).run Tryz.prog w=.ok (.bool true) w:=by kernel_rfl
theorem Qwe {l:Env} {x:Operand} {w:World} {t' ty:TypeId} {a:Addr} {n c:Nat} (hx:ev l x=some (.slice (some a) n c)):X Tryz.prog l (.binOp .eql 77 x (.const (.slice none 0 0)) t') ty w (.bool false) w :=
 JJ hx rfl (fun _ _=>by unfold eqGuard; simp) (eqSlNil w a n c)
theorem Qwf {l:Env} {x:Operand} {w:World} {t' ty:TypeId} {n c:Nat} (hx:ev l x=some (.slice none n c)):X Tryz.prog l (.binOp .eql 77 x (.const (.slice none 0 0)) t') ty w (.bool true) w :=
 JJ hx rfl (fun _ _=>by unfold eqGuard; simp) (Qvo w n c)
theorem bsl0 (w:World):(Instr.buildSlice 77 0 #[]).run Tryz.prog w=.ok (.slice (some ⟨w.heap.size,0,none⟩) 0 0) (w.alloc (.cells #[] 59)):=by kernel_rfl
theorem Hj (v:Value) (l:List Ent) (w:World) (h:Reads w 35 v l.length (l.flatMap Ent.cells)) (h32:∀ e∈l,e.sum.length=32) (hl:l.length≤1000000):Calls Tryz.prog 91 #[v] w fun e w'=>∃ v',e=.returned v'∧Row w' 59 35 v' l.length (l.flatMap Ent.cells)∧(∀ k,v'.ownBlock=some k→w.heap.size≤k)∧Below w.heap.size w w':=by
 obtain ⟨a,cp,rfl,hn,hcp⟩:=h.shape
 have hone:∀ u∈l.flatMap Ent.cells,u.oneCell'=true:=fun u hu=>by
  obtain ⟨e,he,hu⟩:=List.mem_flatMap.1 hu;exact Qlg ⟨e,h32 e he⟩ u hu
 rcases a with _|a
 ·have h0:l=[]:=by
   refine List.eq_nil_of_length_eq_zero (Nat.eq_zero_of_not_pos fun hp=>?_);obtain ⟨g1,o1,c',hv,_⟩:=h.some_ hp;injection hv with e1
   cases e1
  subst h0
  refine Qj (args:=[.slice none 0 cp]) 8 Tryz.func91 Z Z Z<|Qt [(0,.slice none 0 cp)] ?_ ⟨Z,tvA⟩
  have bw:=Below.refl w.heap.size w
  refine Qa<|sa Z Z<|Wn<|tN<|Qe<|Qa<|sm Z Z<|st (Qwf Z) Z<|Wn<|tN<|QO Z (Z)<|Qa<|sa Z Z<|Wn<|tN<|Qg<|tR ?_
  exact (rT Z Z ⟨_,Z,Row.nil _ _ _,fun k hk=>by simp [Value.ownBlock] at hk,bw⟩).1
 ·skip
  refine Qj (args:=[.slice (some a) l.length cp]) 8 Tryz.func91 Z Z Z<|Qt [(0,.slice (some a) l.length cp)] ?_ ⟨Z,tvA⟩
  have bw:=Below.refl w.heap.size w
  refine Qa<|sa Z Z<|Wn<|tN<|Qe<|Qa<|sm Z Z<|st (Qwe Z) Z<|Wn<|tN<|QX Z (Z)<|Qf<|tN<|Qa<|sbs (ps:=[]) 35 Z (bsl0 _) (by simp [maxLen]) Z Z (fun g5 w1 hR5 hg5 hb=>?_)
  replace bw:=Ql bw hb;have hz30:=hb.size;clear hb
  refine sm Z Z<|Z4 Z Z uz77 inf59 Z QF hR5 ((h.bel bw).src uz77 hone) (by simp only [maxLen]; omega) Qb Z (fun v' w2 hR' hCc hv'=>?_)
  replace bw:=KM bw hCc (fun k hk=>by simp [Value.ownBlock] at hk; omega);have hO':=JE hv' (B:=w.heap.size) (fun k hk=>by simp [Value.ownBlock] at hk; omega) Qb;clear hCc hv'
  refine sa Z Z<|Wn<|tN<|Qg ?_
  exact (rT Z Z ⟨v',Z,by simpa using hR',hO',bw⟩).1
end
section
open Go.RowKit
theorem Qiw (a b:List UInt8) (ha:a.length=32) (hb:b.length=32) (w:World) :
  Calls Tryz.prog 165 #[.agg (a.map bv).toArray,.agg (b.map bv).toArray] w fun e w'=>e=.returned (.int .i64 (Qdt a b))∧Below w.heap.size w w':=(Qaq a b ha hb w).mono fun _ _ h=>⟨h.1,h.2.bel⟩
theorem Qxk (a b:List UInt8) (ha:a.length=32) (hb_:b.length=32) (w:World) :
  Calls Tryz.prog 151 #[.agg (a.map bv).toArray,.agg (b.map bv).toArray] w fun e w'=>e=.returned (.bool (decide (a<b)))∧Below w.heap.size w w':=by
 refine Qj (args:=[.agg (a.map bv).toArray,.agg (b.map bv).toArray]) 9 Tryz.func151 Z Z Z<|Qt [(0,.agg (a.map bv).toArray),(1,.agg (b.map bv).toArray)] ?_ ⟨Z,Z,tvA⟩
 have bw:=Below.refl w.heap.size w
 refine Qa<|J1 Z Z (fun g2 w1 hB2 hg2 hb hl2=>?_)
 replace bw:=Ql bw hb;have zz1:=hb.size;clear hb;refine J1 Z Z (fun g3 w2 hB3 hg3 hb hl3=>?_);replace bw:=Ql bw hb;replace hB2:=hB2.bel hb;have zz2:=hb.size;clear hb
 refine sa Z Z<|Wn<|tN<|Qa<|st (QE (cs:=(a.map bv).toArray) Z hB2 uz57 Z (by rw [Qah ⟨a,ha⟩]; exact siz57)) Z ?_
 refine st (QE (cs:=(b.map bv).toArray) Z hB3 uz57 Z (by rw [Qah ⟨b,hb_⟩]; exact siz57)) Z ?_;refine sc _ Tryz.func165 Z Qo Z Z (Q3 (Qiw a b ha hb_ _) fun w3 hb=>?_);replace bw:=Ql bw hb;replace hB2:=hB2.bel hb;replace hB3:=hB3.bel hb;have zz3:=hb.size;clear hb
 refine st (QJ Z Z) Z<|sa Z Z<|Wn<|tN<|Qg<|(rT Z Z ⟨?_,bw⟩).1
 congr 2
 rw [decide_eq_decide];exact cmp_lt a b
theorem Yo (v:Value) (l:List Ent) (w:World) (h:Reads w 35 v l.length (l.flatMap Ent.cells)):Calls Tryz.prog 67 #[.agg #[v]] w fun e w'=>e=.returned (.int .i64 l.length)∧Below w.heap.size w w':=by
 obtain ⟨a,cp,rfl,hn,hcp⟩:=h.shape
 refine Qj (args:=[.agg #[.slice a l.length cp]]) 6 fz67 Z Z Z<|Qt [(0,.agg #[.slice a l.length cp])] ?_ ⟨Z,tvA⟩
 have bw:=Below.refl w.heap.size w
 refine Qa<|J1 Z Z (fun g1 w1 hB1 hg1 hb hl1=>?_)
 replace bw:=Ql bw hb;have zz1:=hb.size;clear hb
 refine sa Z Z<|Wn<|tN<|Qa<|st (Qk KI Z) Z<|st (Qi Z hB1 uz77 Z Z) Z<|st (QT Z Z uz77) Z<|sa Z Z<|Wn<|tN<|Qg ?_
 exact (rT Z Z ⟨Z,bw⟩).1
theorem Zx (v:Value) (l:List Ent) (w:World) (h:Reads w 35 v l.length (l.flatMap Ent.cells)) (h32:∀ e∈l,e.sum.length=32) (hl:l.length≤1000000):Calls Tryz.prog 42 #[.agg #[v]] w fun e w'=>∃ v',e=.returned v'∧Row w' 59 35 v' l.length (l.flatMap Ent.cells)∧(∀ k,v'.ownBlock=some k→w.heap.size≤k)∧Below w.heap.size w w':=by
 obtain ⟨a,cp,rfl,hn,hcp⟩:=h.shape
 refine Qj (args:=[.agg #[.slice a l.length cp]]) 6 fz42 Z Z Z<|Qt [(0,.agg #[.slice a l.length cp])] ?_ ⟨Z,tvA⟩
 have bw:=Below.refl w.heap.size w
 refine Qa<|J1 Z Z (fun g1 w1 hB1 hg1 hb hl1=>?_)
 replace bw:=Ql bw hb;have zz1:=hb.size;clear hb
 refine sa Z Z<|Wn<|tN<|Qa<|st (Qk KI Z) Z<|st (Qi Z hB1 uz77 Z Z) Z<|sc _ Tryz.func91 Z Qo Z Z<|(Hj _ l _ (h.bel bw) h32 hl).mono ?_
 rintro e_ w2 ⟨v',rfl,hR,hO,hb⟩;refine cR ?_;replace bw:=Ql bw hb;replace hB1:=hB1.bel hb;have zz2:=hb.size;clear hb
 refine sa Z Z<|Wn<|tN<|Qg ?_
 exact (rT Z Z ⟨v',Z,hR,fun k hk=>by have:=hO k hk; omega,bw⟩).1
end
section
open Go.RowKit
theorem fbs4 (a b c d:UInt8) (w:World):(Instr.buildSlice 114 4 #[(0,bv a),(1,bv b),(2,bv c),(3,bv d)]).run Tryz.prog w=.ok (.slice (some ⟨w.heap.size,0,none⟩) 4 4) (w.alloc (.cells #[bv a,bv b,bv c,bv d] 5)):=by kernel_rfl
theorem Qkz (v:Value) (s:List UInt8) (n:Int) (w:World) (hR:Row w 5 1 v s.length (s.map bv)) (hs:s.length≤100000000) :
  Calls Tryz.prog 148 #[v,.int .i64 n] w fun e w'=>∃ v',e=.returned v'∧Row w' 5 1 v' (s.length+4) ((s++JR n).map bv)∧Chg (fun k=>v.ownBlock=some k) w w'∧(v'.ownBlock=v.ownBlock∨∃ k,v'.ownBlock=some k∧w.heap.size≤k):=by
 refine Qj (args:=[v,.int .i64 n]) 19 Tryz.func148 Z Z Z<|Qt [(0,v),(1,.int .i64 n)] ?_ ⟨Z,Z,tvA⟩
 refine Qa<|sa Z Z<|Wn<|tN<|Qa<|sm Z Z<|sm Z Z<|st (QM Z uz3 uz5 (wb n)) Z<|sm Z Z<|st (V6 (q:=256) Z Z QF QF Z Z) Z<|st (QM Z uz3 uz5 (wb _)) Z<|sm Z Z<|st (V6 (q:=65536) Z Z QF QF Z Z) Z<|st (QM Z uz3 uz5 (wb _)) Z<|sm Z Z<|st (V6 (q:=16777216) Z Z QF QF Z Z) Z<|st (QM Z uz3 uz5 (wb _)) Z<|sbs (ps:=[(0,.tmp 7),(1,.tmp 10),(2,.tmp 13),(3,.tmp 16)]) 1 Z (fbs4 _ _ _ _ _) (by simp [maxLen]) Z Z (fun g17 w1 hR17 hg17 hb=>?_)
 have hR1:=hR.bel hb;refine Z4 rfl rfl uz114 inf5 rfl QF hR1 (hR17.reads.src uz114 (by intro z hz; simp [bv] at hz; rcases hz with rfl|rfl|rfl|rfl <;> rfl)) (by simp only [maxLen]; omega) Qb rfl (fun v' w2 hR' hC hv'=>?_)
 refine sa Z Z<|Wn<|tN<|Qg<|(rT Z Z ⟨v',Z,?_,?_,?_⟩).1
 ·rw [List.map_append]; exact hR'
 ·exact (Chg.of_below hb _).trans hC (fun i _ h=>h)
 ·rcases hv' with h|h
  ·exact .inl h
  ·exact .inr ⟨_,h,hb.size⟩
theorem ZN (s:List UInt8) (i:Nat) (w:World) (hi:i+4≤s.length) (hs:s.length<100000000) :
  Calls Tryz.prog 150 #[Qv s,.int .i64 i] w fun e w'=>e=.returned (.int .i64 (num (s.drop i):Nat))∧Below w.heap.size w w':=by
 obtain ⟨a,ha⟩:∃ a,s.getD i 0=a:=⟨_,rfl⟩
 obtain ⟨b,hb⟩:∃ a,s.getD (i+1) 0=a:=⟨_,rfl⟩
 obtain ⟨c,hc⟩:∃ a,s.getD (i+2) 0=a:=⟨_,rfl⟩
 obtain ⟨d,hd⟩:∃ a,s.getD (i+3) 0=a:=⟨_,rfl⟩
 have hn:num (s.drop i)=HN a b c d:=by rw [numAt,ha,hb,hc,hd]
 have la:=Qfm a;have lb:=Qfm b;have lc:=Qfm c;have ld:=Qfm d;have o1:=Qmz a.toNat b.toNat 8 Qb Qb;have o2:=Qmz (a.toNat+b.toNat*256) c.toNat 16 Qb Qb;have o3:=Qmz (a.toNat+b.toNat*256+c.toNat*65536) d.toNat 24 Qb Qb
 have hz:((a.toNat+b.toNat*256+c.toNat*65536+d.toNat*16777216:Nat):Int)=((HN a b c d:Nat):Int):=by
  unfold HN
  omega
 refine Qj (args:=[Qv s,.int .i64 i]) 30 fz150 Z Z Z<|Qt [(0,Qv s),(1,.int .i64 i)] ?_ ⟨Z,Z,tvA⟩
 have bw:=Below.refl w.heap.size w
 refine Qa<|sa Z Z<|Wn<|tN<|QS (fun _=>True) [0,1,2,3,4,5,6,7,8,9,10,11,12,13,14,15,16,17,18,19,20,21,22,23,24,25] [Y,Y,Y,Y,Y,Y,Y,Y,Y,Y,Y,Y,Y,Y,Y,Y,Y,Y,Y,Y,Y,Y,Y,Y,Y,Y] Qo Qo (trivial) ?_
 obtain ⟨w1,hw_,hb⟩:=QN w;rw [← hw_];clear hw_;have hS:True:=trivial;replace bw:=Ql bw hb;have zz1:=hb.size;clear hb
 refine oY Z (fun G U=>(Qd Z)) Z<|oY Z (fun G U=>(Qd Z)) Z<|oY Z (fun G U=>(Ys (q:=i) Z Z uz9 Z Qb)) Z<|oY Z (fun G U=>(QM (z:=(a.toNat:Int)) Z uz5 uz3 (by rw [ha]; exact U8 Qb))) Z ?_
 refine oY Z (fun G U=>(Qd Z)) Z<|oY Z (fun G U=>(Qd Z)) Z<|oY Z (fun G U=>(Qn Z Z Qb)) Z<|oY Z (fun G U=>(Ys (q:=i+1) Z Z uz9 Z Qb)) Z<|oY Z (fun G U=>(QM (z:=(b.toNat:Int)) Z uz5 uz3 (by rw [hb]; exact U8 Qb))) Z ?_
 refine oY Z (fun G U=>(Qal (q:=256) (z:=(b.toNat:Int)*256) Z Z QF QF Z Z (U8 Qb))) Z<|oY Z (fun G U=>(Zn Q0 Z Z o1)) Z ?_
 refine oY Z (fun G U=>(Qd Z)) Z<|oY Z (fun G U=>(Qd Z)) Z<|oY Z (fun G U=>(Qn Z Z Qb)) Z<|oY Z (fun G U=>(Ys (q:=i+2) Z Z uz9 Z Qb)) Z<|oY Z (fun G U=>(QM (z:=(c.toNat:Int)) Z uz5 uz3 (by rw [hc]; exact U8 Qb))) Z ?_
 refine oY Z (fun G U=>(Qal (q:=65536) (z:=(c.toNat:Int)*65536) Z Z QF QF Z Z (U8 Qb))) Z<|oY Z (fun G U=>(Zn Q0 Z Z o2)) Z ?_
 refine oY Z (fun G U=>(Qd Z)) Z<|oY Z (fun G U=>(Qd Z)) Z<|oY Z (fun G U=>(Qn Z Z Qb)) Z<|oY Z (fun G U=>(Ys (q:=i+3) Z Z uz9 Z Qb)) Z<|oY Z (fun G U=>(QM (z:=(d.toNat:Int)) Z uz5 uz3 (by rw [hd]; exact U8 Qb))) Z ?_
 refine oY Z (fun G U=>(Qal (q:=16777216) (z:=(d.toNat:Int)*16777216) Z Z QF QF Z Z (U8 Qb))) Z<|oY Z (fun G U=>(Zn Q0 Z Z o3)) Z ?_
 refine oY Z (fun G U=>(Qy Z)) Z<|oN<|nN<|Qg<|(rT Z Z ⟨?_,bw⟩).1
 rw [hn,← hz]
def CntTo (cs:Array Value) (l:List Ent):Prop:=cs.size=256∧∀ b,b<256→cs[b]?=some (.int .i64 ((Z9 l b).length:Nat))
theorem Qlm (l:List Ent) (x:Ent) (b:Nat):Z9 (l++[x]) b=Z9 l b++(if hd x=b then [x] else []):=by
 unfold Z9;rw [List.filter_append]
 congr 1
 by_cases h:hd x=b
 ·rw [if_pos h]; simp [h]
 ·rw [if_neg h]; simp [h]
theorem CntTo.next {cs:Array Value} {l:List Ent} (h:CntTo cs l) (x:Ent):CntTo (cs.setIfInBounds (hd x) (.int .i64 (((Z9 l (hd x)).length:Nat)+1))) (l++[x]):=by
 refine ⟨by simpa using h.1,fun b hb=>?_⟩;rw [Array.getElem?_setIfInBounds,Qlm]
 by_cases e:hd x=b
 ·subst e;rw [if_pos rfl,if_pos (by rw [h.1]; exact hb),if_pos rfl]
  simp
 ·rw [if_neg e,if_neg e,List.append_nil];exact h.2 b hb
theorem cnt_zero:CntTo (List.replicate 256 (Value.int .i64 0)).toArray []:=⟨Xp 256 _,fun b hb=>by rw [List.getElem?_toArray,List.getElem?_replicate,if_pos hb]; rfl⟩
def FanTo (cs:Array Value) (l:List Ent) (k:Nat):Prop:=cs.size=256∧(∀ b,b<k→b<256→cs[b]?=some (.int .i64 (Y3 l b:Nat)))∧∀ b,k≤b→b<256→cs[b]?=some (.int .i64 ((Z9 l b).length:Nat))
theorem CntTo.fan {cs:Array Value} {l:List Ent} (h:CntTo cs l):FanTo cs l 1:=⟨h.1,fun b hb _=>by
 obtain rfl:b=0:=by omega
 rw [cnt_0]
 exact h.2 0 Qb,fun b _ hb=>h.2 b hb⟩
theorem FanTo.next {cs:Array Value} {l:List Ent} {k:Nat} (h:FanTo cs l k) (hk:k<256) (h1:1≤k):FanTo (cs.setIfInBounds k (.int .i64 (((Z9 l k).length:Nat)+(Y3 l (k-1):Nat)))) l (k+1):=by
 refine ⟨by simpa using h.1,fun b hb hb2=>?_,fun b hb hb2=>?_⟩
 ·rw [Array.getElem?_setIfInBounds]
  by_cases e:k=b
  ·subst e;rw [if_pos rfl,if_pos (by rw [h.1]; exact hk)]
   have:=Qvu l (k-1)
   rw [show k-1+1=k by omega] at this
   congr 2
   omega
  ·rw [if_neg e];exact h.2.1 b Qb hb2
 ·rw [Array.getElem?_setIfInBounds,if_neg Qb];exact h.2.2 b Qb hb2
def cntV (l:List Ent):Array Value:=((List.range 256).map fun b=>Value.int .i64 (Y3 l b:Nat)).toArray
theorem UI (l:List Ent):(cntV l).size=256:=by simp [cntV]
theorem Qif (l:List Ent) (b:Nat) (h:b<256):(cntV l)[b]?=some (.int .i64 (Y3 l b:Nat)):=by simp [cntV,h]
theorem Qvv (l:List Ent):(cntV l).toList.all (·.oneCell')=true:=by simp [cntV,Value.oneCell']
theorem FanTo.all {cs:Array Value} {l:List Ent} (h:FanTo cs l 256):cs=cntV l:=by
 apply Array.ext_getElem?
 intro k
 by_cases hk:k<256
 ·rw [h.2.1 k hk hk,Qif l k hk]
 ·rw [Array.getElem?_eq_none (by rw [h.1]; omega),Array.getElem?_eq_none (by rw [UI]; omega)]
theorem Ent.cells_one (e:Ent):e.cells.toArray.toList.all (·.oneCell')=true:=by
 simp [Ent.cells,Value.oneCell',bv]
theorem Ent.cell0 {e:Ent} (h:e.sum.length=32):e.cells.toArray[0+0*1]?=some (.int .u8 (hd e:Nat)):=by
 unfold Ent.cells hd
 cases hs:e.sum with
 | nil=>simp [hs] at h
 | cons c t=>rfl
abbrev EntsAt (w:World) (v:Value) (l:List Ent):Prop:=Reads w 35 v l.length (l.flatMap Ent.cells)
theorem EntsAt.range {w:World} {g o c:Nat} {l:List Ent} (h:EntsAt w (.slice (some ⟨g,o,none⟩) l.length c) l) (h32:Yt l) {j:Nat} {x:Ent} (hx:l[j]?=some x):w.rangeAt g (o+j*35) x.cells:=h.rec_ (fun a ha=>Ent.cells_length (h32 a ha)) hx
theorem EntsAt.sum {w:World} {g o c:Nat} {l:List Ent} (h:EntsAt w (.slice (some ⟨g,o,none⟩) l.length c) l) (h32:Yt l) {j:Nat} {x:Ent} (hx:l[j]?=some x):w.rangeAt g (o+j*35+0) (x.sum.map bv):=fun i v hv=>by
 have hi:=(List.getElem?_eq_some_iff.1 hv).1;refine h.range h32 hx i v ?_;unfold Ent.cells;rw [List.getElem?_append_left hi,hv]
theorem Qpx (v:Value) (l:List Ent) (w:World) (h:EntsAt w v l) (h32:Yt l) (hl:l.length≤1000000) :
  Calls Tryz.prog 147 #[.agg #[v]] w fun e w'=>e=.returned (.agg (cntV l))∧Below w.heap.size w w':=by
 obtain ⟨a,cp,rfl,hn,hcp⟩:=h.shape
 refine Qj (args:=[.agg #[.slice a l.length cp]]) 36 Tryz.func147 Z Z Z<|Qt [(0,.agg #[.slice a l.length cp])] ?_ ⟨Z,tvA⟩
 have bw:=Below.refl w.heap.size w
 refine Qa<|J1 Z Z (fun g1 w1 hB1 hg1 hb hl1=>?_)
 replace bw:=Ql bw hb;have zz1:=hb.size;clear hb;refine Jm inf210 Z (fun g2 w2 hB2 hg2 hb hl2=>?_);replace bw:=Ql bw hb;replace hB1:=hB1.bel hb;have zz2:=hb.size;clear hb
 refine Wn<|tN<|Qa<|Jm inf210 Z (fun g3 w3 hB3 hg3 hb hl3=>?_)
 replace bw:=Ql bw hb;replace hB1:=hB1.bel hb;replace hB2:=hB2.bel hb;have zz3:=hb.size;clear hb
 refine Wn<|tN<|Qe<|Qa<|st (Qk KI Z) Z<|st (Qi Z hB1 uz77 Z Z) Z<|st (QT Z Z uz77) Z<|sm Z Z<|Wn<|tN<|Qp<|JG (fun nw4_ lw4_ w4=>∃ j:Nat,∃ cs:Array Value,nw4_=l.length-j∧lw4_=([(2,.pointer (some ⟨g2,0,none⟩)),(3,.pointer (some ⟨g3,0,none⟩)),(8,.slice a l.length cp),(9,.int .i64 l.length),(10,.int .i64 j)]:Env)∧(j≤l.length)∧(CntTo cs (l.take j))∧(Blk w4 g2 210 (List.replicate 256 (.int .i64 0)).toArray)∧(Blk w4 g3 210 cs)∧(Below w.heap.size w w4)) _ ⟨_,⟨0,_,Z,Z,by omega,cnt_zero,hB2,hB3,bw⟩,⟨Z,Z,Z,Z,Z,tvA⟩⟩ ?_
 clear hB2 hB3 bw;rintro nw4_ lw4_ w4 ⟨j,cs,rfl,rfl,hj,hcs,hB2,hB3,bw⟩;have zz4:=bw.size;have hlt_hB2_w4:=hB2.lt;have hlt_hB3_w4:=hB3.lt
 refine Qa<|st (QJ Z Z) Z<|Wn<|tN<|Qe<|Qx Z (fun h11=>?_) (fun h11=>?_)
 ·replace h11:=Qs h11
  obtain ⟨x,hx⟩:∃ x,l[j]?=some x:=⟨_,List.getElem?_eq_getElem Qb⟩
  obtain ⟨g1,o1,c',hv,hg1⟩:=(h.bel bw).some_ Qb;injection hv with e1 _ e3;subst e1 e3;have hxs:=h32 x (List.mem_of_getElem? hx);have hdl:hd x<256:=(x.sum.headD 0).toNat_lt;have hbl:=Nat.le_trans (List.length_filter_le (fun e=>decide (hd e=hd x)) (l.take j)) (List.length_take_le j l)
  refine Qf<|tN<|Qe<|Qp<|Qa<|st (QA Z Z uz77 siz59 Z Qb) Z<|st (Jw (cs:=x.cells) Z uz59 Z (by rw [Ent.cells_length hxs]; exact siz59) (EntsAt.range (h.bel bw) h32 hx)) Z ?_
  refine Jm inf59 Z (fun g5 w5 hB5 hg5 hb hl5=>?_);replace bw:=Ql bw hb;replace hB2:=hB2.bel hb;replace hB3:=hB3.bel hb;have zz5:=hb.size;clear hb;refine QY Z Z hB5 (by rw [Ent.size hxs]; exact siz59) (by rw [Ent.size hxs]; rfl) (Ent.cells_one x) (fun w6 bB cC=>?_);replace hB5:=bB;clear bB;replace hB2:=hB2.chg cC Z5;replace hB3:=hB3.chg cC Z5;replace bw:=Ji bw cC Qb;have zz6:=cC.size;clear cC
  refine Wn<|tN<|Qw<|st (Qk Y0 Z) Z<|st (Ki (j:=0) Z Z uz57 siz5 Z Qb) Z<|st (Z0 Z hB5 uz5 Z (Ent.cell0 hxs)) Z<|st (Ki Z Z uz210 siz3 Z hdl) Z<|st (Z0 Z hB3 uz3 Z (by rw [Nat.zero_add,Nat.mul_one]; exact hcs.2 _ hdl)) Z ?_
  refine st (Yx Z Z (U8 (by unfold Z9; omega))) Z ?_
  refine st (Ki Z Z uz210 siz3 Z hdl) Z<|KL Z Z hB3 siz3 Z (by rw [hcs.1]; omega) (fun w7 bB cC=>?_)
  rw [Nat.zero_add,Nat.mul_one] at bB;replace hB2:=hB2.chg cC (by show ¬_=_; omega);replace hB3:=bB;replace bw:=Ji bw cC Qb;clear bB cC
  refine Wn<|bN<|tN<|Qw<|st (Qn Z Z Qb) Z<|sm Z Z<|Wn<|tN ⟨_,_,?_,⟨j+1,_,Z,Z,by omega,by rw [QK hx]; exact hcs.next x,hB2,hB3,bw⟩,⟨Z,Z,Z,Z,Z,tvA⟩⟩
  omega
 ·replace h11:=Qs h11
  obtain rfl:j=l.length:=by omega
  rw [List.take_length] at hcs;have hf:=hcs.fan;clear hcs
  refine QQ<|tE<|tE<|bH<|tN<|Qe<|Qa<|sa Z Z<|Wn<|tN<|Qp<|JG (fun nw8_ lw8_ w8=>∃ k:Nat,∃ cs:Array Value,nw8_=256-k∧lw8_=([(2,.pointer (some ⟨g2,0,none⟩)),(3,.pointer (some ⟨g3,0,none⟩)),(6,.int .i64 k)]:Env)∧(k≤256)∧(1≤k)∧(FanTo cs l k)∧(Blk w8 g2 210 (List.replicate 256 (.int .i64 0)).toArray)∧(Blk w8 g3 210 cs)∧(Below w.heap.size w w8)) _ ⟨_,⟨1,_,Z,Z,by omega,by omega,hf,hB2,hB3,bw⟩,⟨Z,Z,Z,tvA⟩⟩ ?_
  clear hf hB2 hB3 bw;rintro nw8_ lw8_ w8 ⟨k,cs,rfl,rfl,hk,hk1,hf,hB2,hB3,bw⟩;have zz8:=bw.size;have hlt_hB2_w8:=hB2.lt;have hlt_hB3_w8:=hB3.lt
  refine Qe<|Qa<|sm Z Z<|st (QJ Z Z) Z<|Wn<|tN<|Qx Z (fun h23=>?_) (fun h23=>?_)
  ·replace h23:=Qs h23;have hc1:=Qds l (k-1);have hc2:(Z9 l k).length≤l.length:=List.length_filter_le _ _;have hfs:=hf.1
   refine Qf<|tN<|Qe<|Qp<|V8 9 Qo Qo ?_
   obtain ⟨w9,hw_,hb⟩:=QN w8;rw [← hw_];clear hw_;replace bw:=Ql bw hb;replace hB2:=hB2.bel hb;replace hB3:=hB3.bel hb;have zz9:=hb.size;clear hb
   refine hY (Qd Z) Z<|hY (Ki Z Z uz210 siz3 Z Qb) Z<|hY (Z0 Z hB3 uz3 Z (by rw [Nat.zero_add,Nat.mul_one]; exact hf.2.2 k (Nat.le_refl _) Qb)) Z ?_
   refine hY (Qd Z) Z<|hY (JU Z Z Qb) Z<|hY (Ki (j:=k-1) Z Z uz210 siz3 Qb Qb) Z<|hY (Z0 Z hB3 uz3 Z (by rw [Nat.zero_add,Nat.mul_one]; exact hf.2.1 (k-1) Qb Qb)) Z ?_
   refine hY (Yx Z Z (U8 Qb)) Z<|hY (Ki Z Z uz210 siz3 Z Qb) Z<|hN<|KL Z Z hB3 siz3 Z (by rw [hfs]; omega) (fun w10 bB cC=>?_)
   rw [Nat.zero_add,Nat.mul_one] at bB;replace hB2:=hB2.chg cC (by show ¬_=_; omega);replace hB3:=bB;replace bw:=Ji bw cC Qb;clear bB cC
   refine Wn<|bN<|tN<|Qw<|sm Z Z<|st (Qn Z Z Qb) Z<|sa Z Z<|Wn<|tN ⟨_,_,?_,⟨k+1,_,Z,Z,by omega,by omega,hf.next Qb hk1,hB2,hB3,bw⟩,⟨Z,Z,Z,tvA⟩⟩
   omega
  ·replace h23:=Qs h23
   obtain rfl:k=256:=by omega
   obtain rfl:=hf.all
   refine QQ<|tE<|tE<|bH<|tN<|Qa<|st (QE Z hB3 uz210 Z (by rw [UI]; exact siz210)) Z ?_
   refine QY Z Z hB2 (by rw [UI]; exact siz210) (by rw [UI]; exact Xp 256 _) (Qvv l) (fun w11 bB cC=>?_);replace hB2:=bB;clear bB;replace hB3:=hB3.chg cC Z5;replace bw:=Ji bw cC Qb;have zz11:=cC.size;clear cC
   refine Wn<|tN<|Qg ?_
   exact (rC Z Z hB2 uz210 Z (by rw [UI]; exact siz210) ⟨Z,bw⟩).1
end
end Go.Proofs.YtgiccohjijhfkaaGreatDoor
