/- Part 3. -/
import Derived.StillTail
import Derived.Ground.NamesProg
import Derived.Shelf.Lay
import Derived.Shelf.Strings.SlTrimAscii
import Derived.Lib.SliceRun
import Derived.Test.YtgiccohjijhfkaaGreatDoorPackPlaysP2
set_option maxRecDepth 100000
set_option maxHeartbeats 4000000
namespace Go.Proofs.YtgiccohjijhfkaaGreatDoor
section
open Go.RowKit
section
variable {ν μ:Type}
def sput:List (Key×ν)→Key→ν→List (Key×ν)
  | [],k,v=>[(k,v)]
  | (a,u)::m,k,v=>if k=a then (a,v)::m else if k<a then (k,v)::(a,u)::m else (a,u)::sput m k v
def Rising (m:List (Key×ν)):Prop:=m.Pairwise (fun p q=>p.1<q.1)
theorem Rising.nodup {m:List (Key×ν)} (h:Rising m):(m.map (·.1)).Nodup:=by
 rw [List.nodup_iff_pairwise_ne,List.pairwise_map];exact h.imp (fun h e=>by rw [e] at h; exact Jt _ h)
theorem Qng {m:List (Key×ν)} {k:Key} (h:∀ p∈m,k<p.1):mget m k=none:=by
 rw [JZ];intro hk;obtain ⟨p,hp,rfl⟩:=List.mem_map.1 hk
 exact Jt _<|h p hp
theorem Zv {m:List (Key×ν)} (h:Rising m) (k:Key) (v:ν) (q:Key):mget (sput m k v) q=if q=k then some v else mget m q:=by
 induction m with
 | nil=>rfl
 | cons p m ih =>
  obtain ⟨a,u⟩:=p;unfold sput
  by_cases h1:k=a
  ·subst h1;rw [if_pos rfl];simp only [mget]
   by_cases hq:q=k
   ·simp [hq]
   ·simp [hq]
  ·rw [if_neg h1]
   by_cases h2:k<a
   ·rw [if_pos h2];simp only [mget]
   ·rw [if_neg h2];simp only [mget];rw [ih (List.pairwise_cons.1 h).2]
    by_cases hq:q=a
    ·subst hq;rw [if_pos rfl,if_neg (fun e=>h1 e.symm),if_pos rfl]
    ·rw [if_neg hq,if_neg hq]
theorem Qua {m:List (Key×ν)} {k:Key} {v:ν} {p:Key×ν} (h:p∈sput m k v):p=(k,v)∨p∈m:=by
 induction m with
 | nil=>simpa [sput] using h
 | cons q m ih =>
  obtain ⟨a,u⟩:=q;unfold sput at h
  split at h
  ·rename_i hk
   subst hk
   rcases List.mem_cons.1 h with h|h
   ·exact .inl h
   ·exact .inr<|List.mem_cons_of_mem _ h
  ·split at h
   ·rcases List.mem_cons.1 h with h|h
    ·exact .inl h
    ·exact .inr h
   ·rcases List.mem_cons.1 h with h|h
    ·exact .inr (by rw [h]; exact List.mem_cons_self ..)
    ·exact (ih h).imp id<|List.mem_cons_of_mem _
theorem Rising.sput {m:List (Key×ν)} (h:Rising m) (k:Key) (v:ν):Rising (sput m k v):=by
 induction m with
 | nil=>exact List.pairwise_singleton _ _
 | cons p m ih =>
  obtain ⟨a,u⟩:=p;have h1:=List.pairwise_cons.1 h;unfold Go.Proofs.YtgiccohjijhfkaaGreatDoor.sput
  split
  ·exact List.pairwise_cons.2 ⟨h1.1,h1.2⟩
  ·split
   ·rename_i hk
    refine List.pairwise_cons.2 ⟨fun q hq=>?_,h⟩
    rcases List.mem_cons.1 hq with hq|hq
    ·rw [hq]; exact hk
    ·exact JL hk<|h1.1 q hq
   ·rename_i hne hlt
    refine List.pairwise_cons.2 ⟨fun q hq=>?_,ih h1.2⟩
    rcases Qua hq with hq|hq
    ·rw [hq];exact ((Ui a k).resolve_right (fun e=>e.elim (fun e=>hne e.symm) hlt))
    ·exact h1.1 q hq
theorem Quw {m:List (Key×ν)} {k:Key} {p:Key×ν} (h:p∈mdel m k):p∈m:=by
 induction m with
 | nil=>cases h
 | cons q m ih =>
  obtain ⟨a,u⟩:=q;unfold mdel at h
  split at h
  ·exact List.mem_cons_of_mem _ h
  ·rcases List.mem_cons.1 h with h|h
   ·rw [h]; exact List.mem_cons_self ..
   ·exact List.mem_cons_of_mem _<|ih h
theorem Rising.del {m:List (Key×ν)} (h:Rising m) (k:Key):Rising (mdel m k):=by
 induction m with
 | nil=>exact List.Pairwise.nil
 | cons p m ih =>
  obtain ⟨a,u⟩:=p;have h1:=List.pairwise_cons.1 h;unfold mdel
  split
  ·exact h1.2
  ·exact List.pairwise_cons.2 ⟨fun q hq=>h1.1 q (Quw hq),ih h1.2⟩
theorem Qkh {m:List (Key×ν)} {k:Key} {v:ν} (h:mget m k=some v):(k,v)∈m:=by
 induction m with
 | nil=>simp [mget] at h
 | cons p m ih =>
  obtain ⟨a,u⟩:=p;unfold mget at h
  split at h
  ·rename_i hk
   injection h with h;rw [hk,h];exact List.mem_cons_self ..
  ·exact List.mem_cons_of_mem _<|ih h
theorem Yj {m:List (Key×ν)} (hn:(m.map (·.1)).Nodup) {k:Key} {v:ν} (h:(k,v)∈m):mget m k=some v:=by
 induction m with
 | nil=>cases h
 | cons p m ih =>
  obtain ⟨a,u⟩:=p;rw [List.map_cons,List.nodup_cons] at hn;unfold mget
  rcases List.mem_cons.1 h with h|h
  ·injection h with h1 h2;rw [h1,h2,if_pos rfl]
  ·rw [if_neg (fun e=>hn.1 (List.mem_map.2 ⟨_,h,e⟩))];exact ih hn.2 h
theorem VL (f:ν→μ) (m:List (Key×ν)) (k:Key):mget (m.map fun p=>(p.1,f p.2)) k=(mget m k).map f:=by
 induction m with
 | nil=>rfl
 | cons p m ih =>
  obtain ⟨a,u⟩:=p;simp only [List.map_cons,mget]
  split
  ·rfl
  ·exact ih
theorem Qcr (f:ν→μ) (m:List (Key×ν)) (k:Key) (v:ν):(mput m k v).map (fun p=>(p.1,f p.2))=mput (m.map fun p=>(p.1,f p.2)) k (f v):=by
 induction m with
 | nil=>rfl
 | cons p m ih =>
  obtain ⟨a,u⟩:=p;simp only [List.map_cons,mput]
  split
  ·rfl
  ·rw [List.map_cons,ih]
theorem Qki (f:ν→μ) (m:List (Key×ν)) (k:Key):(mdel m k).map (fun p=>(p.1,f p.2))=mdel (m.map fun p=>(p.1,f p.2)) k:=by
 induction m with
 | nil=>rfl
 | cons p m ih =>
  obtain ⟨a,u⟩:=p;simp only [List.map_cons,mdel]
  split
  ·rfl
  ·rw [List.map_cons,ih]
theorem Qfp {m:List (Key×ν)} {m':List (Key×μ)} (h:(m.map (·.1)).Nodup) (h':(m'.map (·.1)).Nodup) (he:∀ k,(mget m k).isSome=(mget m' k).isSome):(m.map (·.1)).Perm (m'.map (·.1)):=by
 refine (List.perm_ext_iff_of_nodup h h').2 fun k=>?_
 have:=he k
 constructor
 ·intro hk
  refine Classical.byContradiction fun hn=>?_
  rw [JZ.2 hn] at this
  cases hg:mget m k with
  | none=>exact JZ.1 hg hk
  | some v=>rw [hg] at this; cases this
 ·intro hk
  refine Classical.byContradiction fun hn=>?_
  rw [JZ.2 hn] at this
  cases hg:mget m' k with
  | none=>exact JZ.1 hg hk
  | some v=>rw [hg] at this; cases this
end
structure FileD where
  last:List UInt8
  now:List UInt8
  pend:List (Nat×List UInt8)
deriving DecidableEq
def newFile:FileD:=⟨[],[],[]⟩
def JH (l:List UInt8) (at_:Nat) (d:List UInt8):List UInt8:=l.take at_++d++l.drop (at_+d.length)
theorem Jz {l:List UInt8} {at_:Nat} {d:List UInt8} (h:at_≤l.length):(JH l at_ d).length=max l.length (at_+d.length):=by
 unfold JH;rw [List.length_append,List.length_append,List.length_take,List.length_drop]
 omega
theorem Qfe (l d:List UInt8):JH l l.length d=l++d:=by
 unfold JH;rw [List.take_length,List.drop_of_length_le Qb,List.append_nil]
theorem ZL {l:List UInt8} {at_:Nat}:JH l at_ []=l:=by
 unfold JH;rw [List.append_nil,List.length_nil,Nat.add_zero,List.take_append_drop]
def KY (f:FileD):FileD:={ f with last:=f.now,pend:=[] }
def pendLen:List (Nat×List UInt8)→Nat
  | []=>0
  | p::l=>p.2.length+pendLen l
theorem ZX (l m:List (Nat×List UInt8)):pendLen (l++m)=pendLen l+pendLen m:=by
 induction l with
 | nil=>simp [pendLen]
 | cons p l ih=>simp only [List.cons_append,pendLen,ih]; omega
def KP (f:FileD) (pick:Int):Nat:=(pick%((pendLen f.pend+1:Nat):Int)).toNat
def crashBytes:List UInt8→List (Nat×List UInt8)→Nat→List UInt8
  | s,[],_=>s
  | s,p::l,keep=>crashBytes (JH s (min p.1 s.length) (p.2.take keep)) l (keep-min keep p.2.length)
def ZQ (f:FileD) (keep:Nat):FileD:=⟨crashBytes f.last f.pend keep,crashBytes f.last f.pend keep,[]⟩
def bytesM:List UInt8→List (Nat×List UInt8)→List UInt8
  | s,[]=>s
  | s,p::l=>bytesM (JH s p.1 p.2) l
theorem Qaj (s:List UInt8) (l:List (Nat×List UInt8)) (p:Nat×List UInt8):bytesM s (l++[p])=JH (bytesM s l) p.1 p.2:=by
 induction l generalizing s with
 | nil=>rfl
 | cons q l ih=>exact ih _
def PutsOk:Nat→List (Nat×List UInt8)→Prop
  | _,[]=>True
  | n,p::l=>p.1≤n∧p.2≠[]∧PutsOk (max n (p.1+p.2.length)) l
structure FOk (f:FileD):Prop where
  now:f.now=bytesM f.last f.pend
  puts:PutsOk f.last.length f.pend
theorem crash_len:∀ (l:List (Nat×List UInt8)) (s t:List UInt8) (keep:Nat),PutsOk t.length l→s.length≤t.length→(crashBytes s l keep).length≤(bytesM t l).length
 | [],s,t,_,_,h=>h
 | p::l,s,t,keep,hp,h=>by
  have h1:=Jz (l:=t) (d:=p.2) hp.1;have h2:=Jz (l:=s) (at_:=min p.1 s.length) (d:=p.2.take keep) Qb
  have h3:(p.2.take keep).length≤p.2.length:=by rw [List.length_take]; omega
  exact crash_len l _ _ _ (by rw [h1]; exact hp.2.2) (by rw [h1,h2]; omega)
theorem bytesM_len:∀ (l:List (Nat×List UInt8)) (s:List UInt8),PutsOk s.length l→s.length≤(bytesM s l).length
 | [],_,_=>Nat.le_refl _
 | p::l,s,hp=>by
  have h1:=Jz (l:=s) (d:=p.2) hp.1
  exact Nat.le_trans Qb<|bytesM_len l _ (by rw [h1]; exact hp.2.2)
theorem putsOk_snoc:∀ (l:List (Nat×List UInt8)) (s:List UInt8) (p:Nat×List UInt8),PutsOk s.length l→p.1≤(bytesM s l).length→p.2≠[]→PutsOk s.length (l++[p])
 | [],_,_,_,h,h2=>⟨h,h2,tvA⟩
 | q::l,s,p,hp,h,h2=>by
  have h1:=Jz (l:=s) (d:=q.2) hp.1;refine ⟨hp.1,hp.2.1,?_⟩
  have:=putsOk_snoc l (JH s q.1 q.2) p (by rw [h1]; exact hp.2.2) h h2
  rwa [h1] at this
theorem FOk.new:FOk newFile:=⟨rfl,tvA⟩
theorem FOk.last_le {f:FileD} (h:FOk f):f.last.length≤f.now.length:=by rw [h.now]; exact bytesM_len _ _ h.puts
theorem FOk.lasts (f:FileD):FOk (KY f):=⟨rfl,tvA⟩
theorem FOk.crash (f:FileD) (k:Nat):FOk (ZQ f k):=⟨rfl,tvA⟩
theorem FOk.crash_len {f:FileD} (h:FOk f) (k:Nat):(ZQ f k).now.length≤f.now.length:=by
 rw [h.now]
 exact Go.Proofs.YtgiccohjijhfkaaGreatDoor.crash_len _ _ _ _ h.puts<|Nat.le_refl _
def Xw (f:FileD) (at_:Nat) (d:List UInt8):FileD:=⟨f.last,JH f.now at_ d,f.pend++[(at_,d)]⟩
theorem FOk.laid {f:FileD} (h:FOk f) {at_:Nat} {d:List UInt8} (ha:at_≤f.now.length) (hd:d≠[]):FOk (Xw f at_ d) :=
 ⟨by show _=bytesM f.last (f.pend++[(at_,d)]); rw [Qaj,← h.now]; rfl,putsOk_snoc _ _ _ h.puts (by show at_≤(bytesM f.last f.pend).length; rw [← h.now]; exact ha) hd⟩
structure DiskD where
  files:List (Key×FileD)
  limit:Int
  used:Int
  refused:Int
  stops:Bool
  left:Int
def usedM:List (Key×FileD)→Nat
  | []=>0
  | p::r=>p.2.now.length+usedM r
structure DOk (D:DiskD):Prop where
  srt:Rising D.files
  lim:0≤D.limit∧D.limit≤16777216
  used:D.used=usedM D.files
  room:D.used≤D.limit
  ref:0≤D.refused
  stp:D.stops=true→0≤D.left∧D.left≤9223372036854775807
  fok:∀ n f,mget D.files n=some f→FOk f
theorem Qqs {m:List (Key×FileD)} {k:Key} {f:FileD} (h:mget m k=some f):f.now.length≤usedM m:=by
 induction m with
 | nil=>simp [mget] at h
 | cons p m ih =>
  obtain ⟨a,u⟩:=p;unfold mget at h;unfold usedM
  split at h
  ·injection h with h;subst h;exact Nat.le_add_right ..
  ·have:=ih h
   simp only
   omega
theorem Ve {m:List (Key×FileD)} (hm:Rising m) (k:Key) (f:FileD):usedM (sput m k f)+((mget m k).map (fun g=>g.now.length)).getD 0=usedM m+f.now.length:=by
 induction m with
 | nil=>simp [sput,usedM,mget]
 | cons p m ih =>
  obtain ⟨a,u⟩:=p;have h1:=List.pairwise_cons.1 hm;unfold sput
  by_cases hk:k=a
  ·subst hk;rw [if_pos rfl];simp only [usedM,mget,if_true,Option.map_some,Option.getD_some]
   omega
  ·rw [if_neg hk]
   by_cases hlt:k<a
   ·rw [if_pos hlt]
    rw [Qng (fun q hq=>by
     rcases List.mem_cons.1 hq with hq|hq
     ·rw [hq]; exact hlt
     ·exact JL hlt (h1.1 q hq))]
    simp only [usedM,Option.map_none,Option.getD_none]
    omega
   ·rw [if_neg hlt]
    have:=ih h1.2
    simp only [usedM,mget,if_neg hk]
    omega
theorem HD {m:List (Key×FileD)} (k:Key):usedM (mdel m k)+((mget m k).map (fun g=>g.now.length)).getD 0=usedM m:=by
 induction m with
 | nil=>simp [mdel,usedM,mget]
 | cons p m ih =>
  obtain ⟨a,u⟩:=p;unfold mdel
  by_cases hk:k=a
  ·subst hk;rw [if_pos rfl];simp only [usedM,mget,if_true,Option.map_some,Option.getD_some]
   omega
  ·rw [if_neg hk];simp only [usedM,mget,if_neg hk]
   omega
theorem DOk.len {D:DiskD} (h:DOk D) {n:Key} {f:FileD} (hf:mget D.files n=some f):f.now.length≤16777216∧f.last.length≤16777216∧(f.now.length:Int)≤D.used:=by
 have h1:=Qqs hf;have h2:=(h.fok n f hf).last_le;have h3:=h.used;have h4:=h.room;have h5:=h.lim
 omega
def JO (b:UInt8):Bool:=(decide (97≤b.toNat) && decide (b.toNat≤122)) || (decide (48≤b.toNat) && decide (b.toNat≤57)) || b == 46 || b == 45 || b == 95
def Zj (s:List UInt8):Bool:=!s.isEmpty && decide (s.length≤64) && s.all JO
def QH (D:DiskD):DiskD:=if D.stops=true then { D with left:=D.left-1 } else D
def opM (D:DiskD) (k:DiskD→Int×DiskD):Int×DiskD:=if D.stops=true∧D.left=0 then (19,D) else k (QH D)
def Ym (D:DiskD) (n:Key) (k:FileD→Int×DiskD):Int×DiskD:=match mget D.files n with
  | none=>(15,D)
  | some f=>k f
def KC (f:FileD) (at_:Nat) (d:List UInt8):Nat:=at_+d.length-f.now.length
def Xe (D:DiskD) (n:Key) (f:FileD) (at_:Nat) (d:List UInt8):Int×DiskD :=
  if d=[] then (0,D) else if D.limit<D.used+KC f at_ d then (17,{ D with refused:=D.refused+1 })
  else (0,{ D with files:=sput D.files n (Xw f at_ d),used:=D.used+KC f at_ d })
def QV (D:DiskD) (n:Key):Int×DiskD:=opM D fun D=>if Zj n=true then (if (mget D.files n).isSome then (16,D) else (0,{ D with files:=sput D.files n newFile })) else (1,D)
def QI (D:DiskD) (n:Key) (d:List UInt8):Int×DiskD:=opM D fun D=>Ym D n fun f=>Xe D n f f.now.length d
def Ku (D:DiskD) (n:Key):Int×DiskD:=opM D fun D=>Ym D n fun f=>(0,{ D with files:=sput D.files n (KY f) })
def Qcw (D:DiskD) (n:Key):Nat:=((mget D.files n).map (fun f=>f.now.length)).getD 0
def Kx (D:DiskD) (a b:Key):Int×DiskD:=opM D fun D=>if Zj b=true then Ym D a fun f=>if a=b then (0,D) else (0,{ D with files:=sput (mdel D.files a) b f,used:=D.used-Qcw D b }) else (1,D)
def Q7 (D:DiskD) (n:Key):Int×DiskD:=opM D fun D=>Ym D n fun f=>(0,{ D with files:=mdel D.files n,used:=D.used-f.now.length })
def rotM (D:DiskD) (n:Key) (at_:Int) (b:UInt8):Int×DiskD:=Ym D n fun f=>if at_<0∨(f.now.length:Int)≤at_ then (1,D) else (0,{ D with files:=sput D.files n ⟨f.now.set at_.toNat b,f.now.set at_.toNat b,[]⟩ })
def Kd (D:DiskD) (n:Key) (at_ k:Int):List UInt8×Int:=match mget D.files n with
  | none=>([],15)
  | some f=>if k<0∨at_<0∨(f.now.length:Int)<at_ then ([],1) else ((f.now.drop at_.toNat).take k.toNat,0)
def ZS (D:DiskD) (n:Key):Int×Int:=match mget D.files n with
  | none=>(0,15)
  | some f=>(f.now.length,0)
def KA (D:DiskD):List Key:=D.files.map (·.1)
def crashAll:List (Key×FileD)→List Int→List (Key×FileD)
  | [],_=>[]
  | p::l,ks=>(p.1,ZQ p.2 (KP p.2 (ks.head?.getD 0)))::crashAll l ks.tail
def Ut (D:DiskD) (picks:List Int):DiskD:={ D with files:=crashAll D.files picks,used:=usedM (crashAll D.files picks),stops:=false }
def YC (limit:Int):DiskD:=⟨[],limit,0,0,false,0⟩
theorem Kt {D:DiskD} (h:DOk D) (hl:¬(D.stops=true∧D.left=0)):DOk (QH D):=by
 unfold QH
 split
 ·rename_i hs
  have:=h.stp hs
  have h0:D.left≠0:=fun e=>hl ⟨hs,e⟩
  exact ⟨h.srt,h.lim,h.used,h.room,h.ref,fun _=>⟨by show 0≤D.left-1; omega,by show D.left-1≤_; omega⟩,h.fok⟩
 ·exact h
theorem Zh (D:DiskD):(QH D).files=D.files:=by unfold QH; split <;> rfl
end
section
open Go.RowKit
def ZP (g:Nat):Value:=.pointer (some ⟨g,0,none⟩)
def QR (p:Nat×List UInt8):List Value:=[.int .i64 p.1,Qv p.2]
theorem J7 (p:Nat×List UInt8):(QR p).length=2:=rfl
theorem VH (p:Nat×List UInt8):∀ v∈QR p,v.oneCell'=true:=by
 intro v hv;simp only [QR,List.mem_cons,List.not_mem_nil,or_false] at hv
 rcases hv with rfl|rfl <;> rfl
structure FRec where
  blk:Nat
  vl:Value
  vn:Value
  vp:Value
  f:FileD
def FRec.owns (r:FRec) (k:Nat):Prop:=k=r.blk∨r.vl.ownBlock=some k∨r.vn.ownBlock=some k∨r.vp.ownBlock=some k
structure FileAt (w:World) (r:FRec):Prop where
  blk:Blk w r.blk 117 #[r.vl,r.vn,r.vp]
  last:Row w 5 1 r.vl r.f.last.length (r.f.last.map bv)
  now:Row w 5 1 r.vn r.f.now.length (r.f.now.map bv)
  pend:Row w 163 2 r.vp r.f.pend.length (r.f.pend.flatMap QR)
  apart:∀ k,r.vl.ownBlock=some k→r.vn.ownBlock≠some k
theorem Row.heap_cells {w:World} {e:TypeId} {size n:Nat} {v:Value} {xs:List Value} (h:Row w e size v n xs) {k:Nat} (hk:v.ownBlock=some k):∃ cs fz,w.heap[k]?=some (.cells cs e fz):=by
 rcases h.2 with ⟨rfl,_⟩|⟨g,off,cap,cur,fz,rfl,hg,_⟩
 ·simp [Value.ownBlock] at hk
 ·simp [Value.ownBlock] at hk;subst hk;exact ⟨_,_,hg⟩
theorem FileAt.cells {w:World} {r:FRec} (h:FileAt w r) {k:Nat} (hk:r.owns k):∃ cs t fz,w.heap[k]?=some (.cells cs t fz)∧(t=117∨t=5∨t=163):=by
 rcases hk with rfl|hk|hk|hk
 ·exact ⟨_,_,_,h.blk,.inl Z⟩
 ·obtain ⟨cs,fz,e⟩:=h.last.heap_cells hk; exact ⟨cs,_,fz,e,.inr (.inl rfl)⟩
 ·obtain ⟨cs,fz,e⟩:=h.now.heap_cells hk; exact ⟨cs,_,fz,e,.inr (.inl rfl)⟩
 ·obtain ⟨cs,fz,e⟩:=h.pend.heap_cells hk; exact ⟨cs,_,fz,e,.inr (.inr rfl)⟩
theorem FileAt.lt {w:World} {r:FRec} (h:FileAt w r) {k:Nat} (hk:r.owns k):k<w.heap.size:=by
 obtain ⟨cs,t,fz,e,_⟩:=h.cells hk;exact (Array.getElem?_eq_some_iff.1 e).1
theorem FileAt.ne_blk {w:World} {r:FRec} (h:FileAt w r) {g:Nat} {t:TypeId} {cs:Array Value} (hB:Blk w g t cs) (h1:t≠117) (h2:t≠5) (h3:t≠163):¬r.owns g:=fun hk=>by
 obtain ⟨cs',t',fz,e,ht⟩:=h.cells hk;have hB:w.heap[g]?=some (.cells cs t (0,0)):=hB;rw [hB] at e;injection e with e;injection e with _ e;subst e;exact ht.elim h1 (fun h=>h.elim h2 h3)
theorem FileAt.ne_map {w:World} {r:FRec} (h:FileAt w r) {g:Nat} {es:Array MapEntry} {c:Nat} (hB:w.heap[g]?=some (.map es c)):¬r.owns g:=fun hk=>by
 obtain ⟨cs',t',fz,e,ht⟩:=h.cells hk;rw [hB] at e
 cases e
theorem FileAt.keep {w w':World} {r:FRec} (h:FileAt w r) (hk:∀ k,r.owns k→w'.heap[k]?=w.heap[k]?):FileAt w' r :=
 ⟨(hk _ (.inl rfl)).trans h.blk,h.last.keep fun k e=>hk k (.inr (.inl e)),h.now.keep fun k e=>hk k (.inr (.inr (.inl e))),h.pend.keep fun k e=>hk k (.inr (.inr (.inr e))),h.apart⟩
theorem FileAt.chg {w w':World} {r:FRec} {S:Nat→Prop} (h:FileAt w r) (hc:Chg S w w') (hn:∀ k,r.owns k→¬S k):FileAt w' r :=
 h.keep fun k hk=>hc.block k (h.lt hk) (hn k hk)
theorem FileAt.bel {w w':World} {r:FRec} (h:FileAt w r) (hb:Below w.heap.size w w'):FileAt w' r:=h.keep fun k hk=>hb.block k (h.lt hk)
def Z7 (b:Nat) (D:DiskD):Array Value:=#[.map (some b),.int .i64 D.limit,.int .i64 D.used,.int .i64 D.refused,.bool D.stops,.int .i64 D.left]
structure DiskIn (w:World) (g b:Nat) (D:DiskD) (rs:List (Key×FRec)) (S:Nat→Prop):Prop where
  blk:Blk w g 50 (Z7 b D)
  map:MapAt w b Qv ZP (rs.map fun p=>(p.1,p.2.blk))
  files:∀ n,mget D.files n=(mget rs n).map FRec.f
  at_:∀ n r,mget rs n=some r→FileAt w r
  apart:∀ n m r s k,mget rs n=some r→mget rs m=some s→n≠m→r.owns k→¬s.owns k
  inS:S g∧S b
  inR:∀ n r k,mget rs n=some r→r.owns k→S k
def DiskAt (w:World) (g:Nat) (D:DiskD) (S:Nat→Prop):Prop:=∃ b rs,DiskIn w g b D rs S
def Ext (S:Nat→Prop) (w w':World):Nat→Prop:=fun k=>S k∨(w.heap.size≤k∧k<w'.heap.size)
section
variable {w w':World} {g b:Nat} {D D':DiskD} {rs:List (Key×FRec)} {S T:Nat→Prop} {n:Key} {r r':FRec}
theorem DiskIn.bel (h:DiskIn w g b D rs S) (hb:Below w.heap.size w w'):DiskIn w' g b D rs S :=
 ⟨h.blk.belowAll hb,h.map.bel hb,h.files,fun n r hr=>(h.at_ n r hr).bel hb,h.apart,h.inS,h.inR⟩
theorem DiskIn.mono (h:DiskIn w g b D rs S) (hs:∀ k,S k→T k):DiskIn w g b D rs T :=
 ⟨h.blk,h.map,h.files,h.at_,h.apart,⟨hs _ h.inS.1,hs _ h.inS.2⟩,fun n r k hr hk=>hs k (h.inR n r k hr hk)⟩
theorem DiskIn.ne (h:DiskIn w g b D rs S) (hr:mget rs n=some r):¬r.owns g∧¬r.owns b:=by
 refine ⟨(h.at_ n r hr).ne_blk h.blk QF QF QF,?_⟩;obtain ⟨ts,clock,h1,h2,h3,h4⟩:=h.map.obj;exact (h.at_ n r hr).ne_map h4
theorem DiskIn.gb (h:DiskIn w g b D rs S):g≠b:=by
 rintro rfl;obtain ⟨ts,clock,h1,h2,h3,h4⟩:=h.map.obj;have hB:w.heap[g]?=some (.cells (Z7 g D) 50 (0,0)):=h.blk;rw [hB] at h4
 cases h4
theorem DiskIn.keys (h:DiskIn w g b D rs S):(rs.map (·.1)).Nodup:=by
 have:=h.map.nodup
 rwa [List.map_map,show ((fun x=>x.1) ∘ fun p:Key×FRec=>(p.1,p.2.blk))=(fun p:Key×FRec=>p.1) from rfl] at this
theorem DiskIn.chg (h:DiskIn w g b D rs S) (hc:Chg T w w') (hs:∀ k,S k→¬T k):DiskIn w' g b D rs S :=
 ⟨h.blk.chg hc (hs _ h.inS.1),h.map.chg hc (hs _ h.inS.2),h.files,fun n r hr=>(h.at_ n r hr).chg hc (fun k hk=>hs k (h.inR n r k hr hk)),h.apart,h.inS,h.inR⟩
theorem DiskAt.bel (h:DiskAt w g D S) (hb:Below w.heap.size w w'):DiskAt w' g D S:=by
 obtain ⟨b,rs,h⟩:=h;exact ⟨b,rs,h.bel hb⟩
theorem DiskAt.mono (h:DiskAt w g D S) (hs:∀ k,S k→T k):DiskAt w g D T:=by
 obtain ⟨b,rs,h⟩:=h;exact ⟨b,rs,h.mono hs⟩
theorem DiskAt.chg (h:DiskAt w g D S) (hc:Chg T w w') (hs:∀ k,S k→¬T k):DiskAt w' g D S:=by
 obtain ⟨b,rs,h⟩:=h;exact ⟨b,rs,h.chg hc hs⟩
theorem DiskIn.file (h:DiskIn w g b D rs S) (hr:mget rs n=some r) (hc:Chg (fun k=>k=g∨r.owns k) w w') (hB:Blk w' g 50 (Z7 b D')) (hf:∀ m,mget D'.files m=if m=n then some r'.f else mget D.files m)
  (hr':FileAt w' r') (hb:r'.blk=r.blk) (ho:∀ k,r'.owns k→r.owns k∨w.heap.size≤k):DiskIn w' g b D' (mput rs n r') (Ext S w w'):=by
 have hkk:∀ m s k,m≠n→mget rs m=some s→s.owns k→¬(k=g∨r.owns k):=fun m s k hm hs hk e=>by
  rcases e with rfl|e
  ·exact (h.ne hs).1 hk
  ·exact h.apart m n s r k hs hr hm hk e
 have hat:∀ m s,m≠n→mget rs m=some s→FileAt w' s:=fun m s hm hs=>(h.at_ m s hs).chg hc (fun k hk=>hkk m s k hm hs hk)
 refine ⟨hB,?_,fun m=>?_,fun m s hs=>?_,fun m m' s s' k hs hs' hne hk hk'=>?_,⟨.inl h.inS.1,.inl h.inS.2⟩,fun m s k hs hk=>?_⟩
 ·rw [Qcr FRec.blk,hb,Qru (by rw [VL,hr]; rfl)];exact h.map.chg hc (fun e=>e.elim (fun e=>h.gb e.symm) (h.ne hr).2)
 ·rw [hf,Z6]
  split
  ·rfl
  ·exact h.files m
 ·rw [Z6] at hs
  split at hs
  ·injection hs with hs;rw [← hs];exact hr'
  ·rename_i hm
   exact hat m s hm hs
 ·rw [Z6] at hs hs'
  split at hs
  ·injection hs with hs;subst hs
   rename_i hm
   rw [if_neg (fun e=>hne (hm.trans e.symm))] at hs'
   have hm':m'≠n:=fun e=>hne (hm.trans e.symm)
   rcases ho k hk with e|e
   ·exact h.apart m' n s' r k hs' hr hm' hk' e
   ·have:=(h.at_ m' s' hs').lt hk'
    omega
  ·rename_i hm
   split at hs'
   ·injection hs' with hs';subst hs'
    rcases ho k hk' with e|e
    ·exact h.apart m n s r k hs hr hm hk e
    ·have:=(h.at_ m s hs).lt hk
     omega
   ·exact h.apart m m' s s' k hs hs' hne hk hk'
 ·rw [Z6] at hs
  split at hs
  ·injection hs with hs;subst hs
   rcases ho k hk with e|e
   ·exact .inl<|h.inR n r k hr e
   ·exact .inr ⟨e,hr'.lt hk⟩
  ·exact .inl<|h.inR m s k hs hk
theorem DiskIn.self (h:DiskIn w g b D rs S) (hc:Chg (fun k=>k=g) w w') (hB:Blk w' g 50 (Z7 b D')) (hf:D'.files=D.files):DiskIn w' g b D' rs S :=
 ⟨hB,h.map.chg hc (fun e=>h.gb e.symm),fun n=>by rw [hf]; exact h.files n,fun n r hr=>(h.at_ n r hr).chg hc (fun k hk e=>(h.ne hr).1 (by rw [← e]; exact hk)),h.apart,h.inS,h.inR⟩
theorem DiskIn.add (h:DiskIn w g b D rs S) (hc:Chg (fun k=>k=g∨k=b) w w') (hB:Blk w' g 50 (Z7 b D')) (hM:MapAt w' b Qv ZP (mput (rs.map fun p=>(p.1,p.2.blk)) n r'.blk))
  (hf:∀ m,mget D'.files m=if m=n then some r'.f else mget D.files m) (hr':FileAt w' r') (ho:∀ k,r'.owns k→w.heap.size≤k):DiskIn w' g b D' (mput rs n r') (Ext S w w'):=by
 have hat:∀ m s,mget rs m=some s→FileAt w' s:=fun m s hs=>(h.at_ m s hs).chg hc (fun k hk e=>e.elim (fun e=>(h.ne hs).1 (by rw [← e]; exact hk)) (fun e=>(h.ne hs).2 (by rw [← e]; exact hk)))
 refine ⟨hB,?_,fun m=>?_,fun m s hs=>?_,fun m m' s s' k hs hs' hne hk hk'=>?_,⟨.inl h.inS.1,.inl h.inS.2⟩,fun m s k hs hk=>?_⟩
 ·rw [Qcr FRec.blk];exact hM
 ·rw [hf,Z6]
  split
  ·rfl
  ·exact h.files m
 ·rw [Z6] at hs
  split at hs
  ·injection hs with hs;rw [← hs];exact hr'
  ·exact hat m s hs
 ·rw [Z6] at hs hs'
  split at hs
  ·injection hs with hs;subst hs
   rename_i hm
   rw [if_neg (fun e=>hne (hm.trans e.symm))] at hs'
   have:=ho k hk
   have:=(h.at_ m' s' hs').lt hk'
   omega
  ·split at hs'
   ·injection hs' with hs';subst hs'
    have:=ho k hk'
    have:=(h.at_ m s hs).lt hk
    omega
   ·exact h.apart m m' s s' k hs hs' hne hk hk'
 ·rw [Z6] at hs
  split at hs
  ·injection hs with hs;subst hs;exact .inr ⟨ho k hk,hr'.lt hk⟩
  ·exact .inl<|h.inR m s k hs hk
theorem DiskIn.sub {rs':List (Key×FRec)} (h:DiskIn w g b D rs S) (σ:Key→Key) (hσ:∀ n r,mget rs' n=some r→mget rs (σ n)=some r) (hi:∀ n m r s,mget rs' n=some r→mget rs' m=some s→n≠m→σ n≠σ m)
  (hc:Chg (fun k=>k=g∨k=b) w w') (hB:Blk w' g 50 (Z7 b D')) (hM:MapAt w' b Qv ZP (rs'.map fun p=>(p.1,p.2.blk))) (hf:∀ m,mget D'.files m=(mget rs' m).map FRec.f):DiskIn w' g b D' rs' S:=by
 have hat:∀ m s,mget rs m=some s→FileAt w' s:=fun m s hs=>(h.at_ m s hs).chg hc (fun k hk e=>e.elim (fun e=>(h.ne hs).1 (by rw [← e]; exact hk)) (fun e=>(h.ne hs).2 (by rw [← e]; exact hk)))
 exact ⟨hB,hM,hf,fun m s hs=>hat _ s (hσ m s hs),fun m m' s s' k hs hs' hne=>h.apart _ _ s s' k (hσ m s hs) (hσ m' s' hs') (hi m m' s s' hs hs' hne),h.inS,fun m s k hs hk=>h.inR _ s k (hσ m s hs) hk⟩
theorem Ext.of:∀ k,S k→Ext S w w' k:=fun _ h=>Or.inl h
end
end
section
open Go.RowKit
def WH (P:Program) (N:Nat) (ds:List Deferred) (ops:Array Oper) (Q:Env→Prop) (os:List Oper) (l:Env) (w:World):Prop:=∀ a,Rep N ds l a→wpStill P ops w (fun a'=>∃ l',Rep N ds l' a'∧Q l') os a
section
variable {P:Program} {N:Nat} {ds:List Deferred} {Q:Post} {K:Env→Prop} {os rest:List Oper} {ops:Array Oper} {l:Env} {w:World} {op:Op} {ty:TypeId} {pos:String} {aft:Array Edge} {d:Nat} {v:Value}
theorem hN (h:K l):WH P N ds ops K [] l w:=fun _ ha=>wpStill_nil ⟨_,ha,h⟩
theorem hY (hx:X P l op ty w v w) (hd:Nat.blt d N=true) (h:WH P N ds ops K rest ((d,v)::l) w):WH P N ds ops K (⟨some d,op,ty,pos,aft,none⟩::rest) l w:=fun a ha=>by
 refine wpStill_step fun K' hK'=>?_
 rw [if_pos (by rfl)];unfold Oper.still
 have:(execOp a.eval ⟨some d,op,ty,pos,aft,none⟩).run P w=.ok (.value v) w:=hx _ ha.knows
 rw [this,Oper.stillUpon_value]
 exact hK' _<|h _<|ha.put hd v
theorem Xg {A B:Act→Prop} (h:∀ a,A a→B a):∀ (os:List Oper) (a:Act),wpStill P ops w A os a→wpStill P ops w B os a
 | [],_,hh=>h _ hh
 | o::rest,a,hh=>by
  unfold wpStill at hh ⊢
  split at hh
  ·rename_i hw
   rw [if_pos hw];exact Oper.still_mono (fun a' h'=>Xg h rest a' h') hh
  ·rename_i hw
   rw [if_neg hw];exact Xg h rest _ hh
theorem V8 {id:Nat} (n:Nat) (hm:P.follows .mixedOrders=true) (hB:Region.lexTailB .any os.toArray n=true)
  (h:WH P N ds os.toArray (fun l=>WL P N ds os.toArray Q (os.drop n) l w.drew) (os.take n) l w.drew):W P N ds Q (.region id os.toArray true) l w:=fun a ha=>by
 refine wp_region_still_tail n hm hB ?_
 have:=h a ha
 refine Xg ?_ _ _ this;rintro a' ⟨l',hr,hq⟩;exact hq a' hr
theorem UJ {id:Nat} {y:Code} (n:Nat) (hm:P.follows .mixedOrders=true) (hB:Region.lexTailB .any os.toArray n=true)
  (h:WH P N ds os.toArray (fun l=>WL P N ds os.toArray (X6 (W P N ds Q y) Q) (os.drop n) l w.drew) (os.take n) l w.drew):W P N ds Q (.seq (.region id os.toArray true) y) l w :=
 Qe (V8 n hm hB h)
end
end
section
open Go.RowKit Go.Shelf
shelf_lay Lays.n160 Nm 160 at Tryz as Tryz.lays160
theorem ZM {P:Program} {w:World} {t:TypeId} {o:BinOp} {p q:Option Addr} (c d:Operand):(eqGuard o t c d (.pointer p) (.pointer q)).run P w=.ok () w:=by
 unfold eqGuard
 cases o <;> simp
theorem nilEqP (w:World) (a:Addr):(binOp .eql 23 (.pointer (some a)) (.pointer none)).run Tryz.prog w=.ok (.bool false) w:=by kernel_rfl
theorem nilEqN (w:World):(binOp .eql 23 (.pointer none) (.pointer none)).run Tryz.prog w=.ok (.bool true) w:=by kernel_rfl
theorem nilEqPf (w:World) (a:Addr):(binOp .eql 111 (.pointer (some a)) (.pointer none)).run Tryz.prog w=.ok (.bool false) w:=by kernel_rfl
theorem nilEqNf (w:World):(binOp .eql 111 (.pointer none) (.pointer none)).run Tryz.prog w=.ok (.bool true) w:=by kernel_rfl
theorem nilNePf (w:World) (a:Addr):(binOp .neq 111 (.pointer (some a)) (.pointer none)).run Tryz.prog w=.ok (.bool true) w:=by kernel_rfl
theorem nilNeNf (w:World):(binOp .neq 111 (.pointer none) (.pointer none)).run Tryz.prog w=.ok (.bool false) w:=by kernel_rfl
section
variable {l:Env} {x:Operand} {w:World} {t' ty:TypeId} {a:Addr} {p:Option Addr}
theorem Qam (hx:ev l x=some (.pointer p)):X Tryz.prog l (.binOp .eql 23 x (.const (.pointer none)) t') ty w (.bool p.isNone) w :=
 JJ hx rfl ZM (by cases p with|none=>exact nilEqN w|some a=>exact nilEqP w a)
theorem X.fEq (hx:ev l x=some (.pointer p)):X Tryz.prog l (.binOp .eql 111 x (.const (.pointer none)) t') ty w (.bool p.isNone) w :=
 JJ hx rfl ZM (by cases p with|none=>exact nilEqNf w|some a=>exact nilEqPf w a)
theorem Qqh (hx:ev l x=some (.pointer p)):X Tryz.prog l (.binOp .neq 111 x (.const (.pointer none)) t') ty w (.bool p.isSome) w :=
 JJ hx rfl ZM (by cases p with|none=>exact nilNeNf w|some a=>exact nilNePf w a)
end
def lettersB:List UInt8:=[97,98,99,100,101,102,103,104,105,106,107,108,109,110,111,112,113,114,115,116,117,118,119,120,121,122,48,49,50,51,52,53,54,55,56,57,46,45,95]
theorem Qkm (b:UInt8):lettersB.contains b=JO b:=by
 have h:∀ n,n<256→lettersB.contains (UInt8.ofNat n)=JO (UInt8.ofNat n):=by decide
 have:=h b.toNat b.toNat_lt
 rwa [UInt8.ofNat_toNat] at this
theorem X8 {p:UInt8→Bool}:∀ {l:List UInt8},l.dropWhile p=[]↔l.all p=true
 | []=>by simp
 | a::l=>by
  rw [List.dropWhile_cons,List.all_cons]
  by_cases h:p a=true
  ·rw [if_pos h,X8,h,Bool.true_and]
  ·rw [if_neg h];simp [h]
theorem Va {p:UInt8→Bool}:∀ (l:List UInt8),(l.dropWhile p).all p=l.all p
 | []=>rfl
 | a::l=>by
  rw [List.dropWhile_cons]
  by_cases h:p a=true
  ·rw [if_pos h,Va,List.all_cons,h,Bool.true_and]
  ·rw [if_neg h]
theorem V3 {p:UInt8→Bool} (l:List UInt8):l.reverse.all p=l.all p:=by
 rw [List.all_reverse]
theorem Qtp (s:List UInt8):(Lib.trimS s lettersB=[])↔s.all JO=true:=by
 unfold Lib.trimS Lib.trimLeftS Lib.trimRightS;rw [X8,show (fun x=>lettersB.contains x)=JO from funext Qkm,V3,Va,V3]
theorem Qwu (s:List UInt8) (w:World) (hs:s.length≤9223372036854775807) :
  Calls Tryz.prog 116 #[Qv s,Qv lettersB] w fun e w'=>e=.returned (Qv (Lib.trimS s lettersB))∧Below w.heap.size w w':=by
 have:=Any.strings_Trim_laid Tryz.lays160 Qo ⟨s.toArray⟩ ⟨lettersB.toArray⟩ w (by show s.toArray.size≤_; simpa using hs) QF (ascii_of_all QF)
 exact this
theorem Qrt (s:List UInt8):Zj s=(decide (s≠[]) && decide (s.length≤64) && decide (Lib.trimS s lettersB=[])):=by
 unfold Zj;rw [show decide (Lib.trimS s lettersB=[])=s.all JO from by rw [Bool.eq_iff_iff,decide_eq_true_eq]; exact Qtp s]
 cases s <;> rfl
theorem YM (s:List UInt8) (w:World) :
  Calls Tryz.prog 73 #[Qv s] w fun e w'=>e=.returned (.bool (Zj s))∧Below w.heap.size w w':=by
 rw [Qrt]
 refine Qj (args:=[Qv s]) 15 fz73 Z Z Z<|Qt [(0,Qv s)] ?_ ⟨Z,tvA⟩
 have bw:=Below.refl w.heap.size w
 refine Qa<|sa Z Z<|Wn<|tN<|Qa<|sm Z Z<|st (Y7 Z Z) Z<|sb Z Z (fun h5=>?_) (fun h5=>?_)
 ·replace h5:=Qs h5
  refine gY Z Z Z<|sm Z Z<|gY Z Z Z<|st (QP Z Z uz9) Z<|gY Z Z Z<|st (V7 Z Z) Z<|st (Qm Z Z) Z<|sb Z Z (fun h10=>?_) (fun h10=>?_)
  ·replace h10:=Qs h10
   refine gY Z Z Z<|sm Z Z<|gY Z Z Z<|sc _ Tryz.func116 Z Qo Z Z (Q3 (Qwu s _ Qb) fun w1 hb=>?_)
   replace bw:=Ql bw hb;have zz1:=hb.size;clear hb
   refine gY Z Z Z<|st (KR Z Z) Z<|st (Qm Z Z) Z<|sa Z Z<|Wn<|tN<|Qg ?_
   exact (rT Z Z ⟨by simp [*] <;> omega,bw⟩).1
  ·replace h10:=Qs h10
   refine gN Z Z Z Z<|gN Z Z Z Z<|gN Z Z Z Z<|st (Qq Z Z) Z<|sa Z Z<|Wn<|tN<|Qg ?_
   exact (rT Z Z ⟨by simp [*] <;> omega,bw⟩).1
 ·replace h5:=Qs h5
  refine gN Z Z Z Z<|gN Z Z Z Z<|gN Z Z Z Z<|st (Qq Z Z) Z<|sm Z Z<|gN Z Z Z Z<|gN Z Z Z Z<|gN Z Z Z Z<|st (Qq Z Z) Z<|sa Z Z<|Wn<|tN<|Qg ?_
  exact (rT Z Z ⟨by simp [*] <;> omega,bw⟩).1
theorem JW (g b:Nat) (D:DiskD) (rs:List (Key×FRec)) (S:Nat→Prop) (w:World) (h:DiskIn w g b D rs S) (hok:DOk D) (hl:¬(D.stops=true∧D.left=0)) :
  Calls Tryz.prog 72 #[.pointer (some ⟨g,0,none⟩)] w fun e w'=>e=.returned (.int .i64 0)∧DiskIn w' g b (QH D) rs S∧Chg (fun k=>k=g) w w':=by
 have hB:Blk w g 50 #[.map (some b),.int .i64 D.limit,.int .i64 D.used,.int .i64 D.refused,.bool D.stops,.int .i64 D.left]:=h.blk;have hlt:=hB.lt;have hst:=hok.stp;unfold QH
 refine Qj (args:=[.pointer (some ⟨g,0,none⟩)]) 30 fz72 Z Z Z<|Qt [(0,.pointer (some ⟨g,0,none⟩))] ?_ ⟨Z,tvA⟩
 have hcw:=Chg.refl (fun k=>k=g) w
 refine Qa<|sa Z Z<|Wn<|tN<|Qe<|Qp<|Qa<|sm Z Z<|st (Qam Z) Z<|sa Z Z<|Wn<|tN<|QX Z (Z)<|Qa<|sm Z Z<|st (Qc Z) Z<|st (Qk Qdk Z) Z<|st (Qi Z hB uz4 Z Z) Z<|sb Z Z (fun h11=>?_) (fun h11=>?_)
 ·replace h11:=Qs h11;have hst1:=hst h11
  refine gY Z Z Z<|sm Z Z<|gY Z Z Z<|st (Qc Z) Z<|gY Z Z Z<|st (Qk Qhr Z) Z<|gY Z Z Z<|st (Qi Z hB uz3 Z Z) Z<|gY Z Z Z<|st (QL Z Z) Z<|st (Qm Z Z) Z<|sa Z Z<|Wn<|tN<|Qx Z (fun h6=>?_) (fun h6=>?_)
  ·replace h6:=Qs h6;exact absurd ⟨h11,h6⟩ hl
  ·replace h6:=Qs h6
   refine Qa<|sm Z Z<|st (Qc Z) Z<|st (Qk Qdk Z) Z<|st (Qi Z hB uz4 Z Z) Z<|sa Z Z<|Wn<|tN<|QO Z (h11)<|Qw<|sm Z Z<|st (Qc Z) Z<|st (Qk Qhr Z) Z<|st (Qi Z hB uz3 Z Z) Z<|st (JU Z Z Qb) Z<|st (Qc Z) Z<|st (Qk Qhr Z) Z<|KL Z Z hB siz3 Z (by first|decide|simp) (fun w1 bB cC=>?_)
   replace hB:=bB;clear bB;replace hcw:=hcw.next cC KO;have zz1:=cC.size;clear cC
   refine Wn<|bN<|tN<|Qa<|sa Z Z<|Wn<|tN<|Qg<|(rT Z Z ⟨Z,?_,hcw⟩).1
   rw [if_pos h11];exact h.self hcw hB Z
 ·replace h11:=Qs h11
  refine gN Z Z Z Z<|gN Z Z Z Z<|gN Z Z Z Z<|gN Z Z Z Z<|gN Z Z Z Z<|st (Qq Z Z) Z<|sa Z Z<|Wn<|tN<|QX Z (Z)<|Qa<|sm Z Z<|st (Qc Z) Z<|st (Qk Qdk Z) Z<|st (Qi Z hB uz4 Z Z) Z<|sa Z Z<|Wn<|tN<|QX Z (h11)<|Qf<|bN<|tN<|Qa<|sa Z Z<|Wn<|tN<|Qg<|(rT Z Z ⟨Z,?_,hcw⟩).1
  rw [if_neg (by rw [h11]; decide)];exact h.self hcw hB Z
theorem YV (g b:Nat) (D:DiskD) (w:World) (hB:Blk w g 50 (Z7 b D)) (hl:D.stops=true∧D.left=0) :
  Calls Tryz.prog 72 #[.pointer (some ⟨g,0,none⟩)] w fun e w'=>e=.returned (.int .i64 19)∧Below w.heap.size w w':=by
 have hB:Blk w g 50 #[.map (some b),.int .i64 D.limit,.int .i64 D.used,.int .i64 D.refused,.bool D.stops,.int .i64 D.left]:=hB
 refine Qj (args:=[.pointer (some ⟨g,0,none⟩)]) 30 fz72 Z Z Z<|Qt [(0,.pointer (some ⟨g,0,none⟩))] ?_ ⟨Z,tvA⟩
 have bw:=Below.refl w.heap.size w
 refine Qa<|sa Z Z<|Wn<|tN<|Qe<|Qp<|Qa<|sm Z Z<|st (Qam Z) Z<|sa Z Z<|Wn<|tN<|QX Z (Z)<|Qa<|sm Z Z<|st (Qc Z) Z<|st (Qk Qdk Z) Z<|st (Qi Z hB uz4 Z Z) Z<|UP Z (hl.1) Z<|gY Z Z Z<|sm Z Z<|gY Z Z Z<|st (Qc Z) Z<|gY Z Z Z<|st (Qk Qhr Z) Z<|gY Z Z Z<|st (Qi Z hB uz3 Z Z) Z<|gY Z Z Z<|st (QL Z Z) Z<|st (Qm Z Z) Z<|sa Z Z ?_
 refine Wn<|tN<|QO Z (decide_eq_true hl.2)<|Qa<|sa Z Z<|Wn<|tN<|Qg<|bR<|tR ?_
 exact (rT Z Z ⟨Z,bw⟩).1
theorem zptr (w:World):(zeroValue 111).run Tryz.prog w=.ok (.pointer none) w:=by kernel_rfl
theorem Kn (g b:Nat) (D:DiskD) (rs:List (Key×FRec)) (S:Nat→Prop) (n:Key) (r:FRec) (w:World) (h:DiskIn w g b D rs S) (hr:mget rs n=some r) :
  Calls Tryz.prog 58 #[.pointer (some ⟨g,0,none⟩),Qv n] w fun e w'=>e=.returned (.tuple #[.pointer (some ⟨r.blk,0,none⟩),.int .i64 0])∧Below w.heap.size w w':=by
 have hB:Blk w g 50 #[.map (some b),.int .i64 D.limit,.int .i64 D.used,.int .i64 D.refused,.bool D.stops,.int .i64 D.left]:=h.blk;have hM:=h.map
 have hv:((mget (rs.map fun p=>(p.1,p.2.blk)) n).map ZP).getD (.pointer none)=ZP r.blk:=by rw [VL,hr]; rfl
 refine Qj (args:=[.pointer (some ⟨g,0,none⟩),Qv n]) 18 fz58 Z Z Z<|Qt [(0,.pointer (some ⟨g,0,none⟩)),(1,Qv n)] ?_ ⟨Z,Z,tvA⟩
 have bw:=Below.refl w.heap.size w
 refine Qa<|sa Z Z<|sa Z Z<|Wn<|tN<|Qe<|Qa<|sm Z Z<|st (Qam Z) Z<|Wn<|tN<|QX Z (Z)<|Qf<|tN<|Qa<|sm Z Z<|st (Qc Z) Z<|st (Qk KF Z) Z<|st (Qi Z hB uz48 Z Z) Z<|sm Z Z<|st (v:=ZP r.blk) (by rw [← hv]; exact Vy (KZ uz9) Z n Z uz48 (zptr _) (hM.bel bw)) Z ?_
 refine sa Z Z<|Wn<|tN<|Qe<|Qa<|sm Z Z<|st (X.fEq Z) Z<|Wn<|tN<|QX Z (Z)<|Qf<|tN<|Qa<|sm Z Z<|sa Z Z<|sa Z Z<|Wn<|tN<|Qg ?_
 exact (J6 Z Z Z ⟨Z,bw⟩).1
theorem K0 (g b:Nat) (D:DiskD) (rs:List (Key×FRec)) (S:Nat→Prop) (n:Key) (w:World) (h:DiskIn w g b D rs S) (hr:mget rs n=none) :
  Calls Tryz.prog 58 #[.pointer (some ⟨g,0,none⟩),Qv n] w fun e w'=>e=.returned (.tuple #[.pointer none,.int .i64 15])∧Below w.heap.size w w':=by
 have hB:Blk w g 50 #[.map (some b),.int .i64 D.limit,.int .i64 D.used,.int .i64 D.refused,.bool D.stops,.int .i64 D.left]:=h.blk;have hM:=h.map
 have hv:((mget (rs.map fun p=>(p.1,p.2.blk)) n).map ZP).getD (.pointer none)=.pointer none:=by rw [VL,hr]; rfl
 refine Qj (args:=[.pointer (some ⟨g,0,none⟩),Qv n]) 18 fz58 Z Z Z<|Qt [(0,.pointer (some ⟨g,0,none⟩)),(1,Qv n)] ?_ ⟨Z,Z,tvA⟩
 have bw:=Below.refl w.heap.size w
 refine Qa<|sa Z Z<|sa Z Z<|Wn<|tN<|Qe<|Qa<|sm Z Z<|st (Qam Z) Z<|Wn<|tN<|QX Z (Z)<|Qf<|tN<|Qa<|sm Z Z<|st (Qc Z) Z<|st (Qk KF Z) Z<|st (Qi Z hB uz48 Z Z) Z<|sm Z Z<|st (v:=.pointer none) (by rw [← hv]; exact Vy (KZ uz9) Z n Z uz48 (zptr _) (hM.bel bw)) Z ?_
 refine sa Z Z<|Wn<|tN<|Qe<|Qa<|sm Z Z<|st (X.fEq Z) Z<|Wn<|tN<|QO Z (Z)<|Qa<|sa Z Z<|sa Z Z<|Wn<|tN<|Qg<|tR ?_
 exact (J6 Z Z Z ⟨Z,bw⟩).1
end
section
open Go.RowKit
section
variable {P:Program} {l:Env} {w:World} {ty t e:TypeId} {x y z:Operand} {k k':IntKind} {m m':Int} {a:Option Addr} {n c size:Nat}
theorem Qbn (hu:P.underlying t=some (.slice e)):P.elem t=e:=by
 unfold Program.elem;rw [hu]
theorem Qbf (hi:(P.info? e).map (·.size)=some size):(sizeOf e).run P w=.ok size w:=by
 obtain ⟨q,hq,hs⟩:=Option.map_eq_some_iff.1 hi;simp [sizeOf,typeInfo,hq,hs]
theorem Qqg {i:Nat} (hx:ev l x=some (.slice a n c)) (hy:ev l y=some (.int k m)) (hu:P.underlying t=some (.slice e)) (hi:(P.info? e).map (·.size)=some size) (hm:m=(i:Int)) (hin:i≤n):X P l (.slice t x (some y) none none) ty w (sliced a i n c size) w:=fun ρ hρ=>by
 subst hm;have he:=Qbn hu
 have:=run_slice_l (P:=P) w t a n c (by rw [he]; exact hu) k (i:Int) Qb Qb
 unfold execOp;simp [hρ _ _ hx,hρ _ _ hy,Instr.sliceAt,run_underlying hu,this,he,Qbf hi,Result.andThen]
theorem X.toL {j:Nat} (hx:ev l x=some (.slice a n c)) (hy:ev l y=some (.int k m)) (hu:P.underlying t=some (.slice e)) (hi:(P.info? e).map (·.size)=some size) (hm:m=(j:Int)) (hin:j≤c):X P l (.slice t x none (some y) none) ty w (sliced a 0 j c size) w:=fun ρ hρ=>by
 subst hm;have he:=Qbn hu
 have:=run_slice_h (P:=P) w t a n c (by rw [he]; exact hu) k (j:Int) Qb Qb
 unfold execOp;simp [hρ _ _ hx,hρ _ _ hy,Instr.sliceAt,run_underlying hu,this,he,Qbf hi,Result.andThen]
theorem X.cutL {i j:Nat} (hx:ev l x=some (.slice a n c)) (hy:ev l y=some (.int k m)) (hz:ev l z=some (.int k' m')) (hu:P.underlying t=some (.slice e)) (hi:(P.info? e).map (·.size)=some size) (hm:m=(i:Int)) (hm':m'=(j:Int)) (hij:i≤j) (hin:j≤c):X P l (.slice t x (some y) (some z) none) ty w (sliced a i j c size) w:=fun ρ hρ=>by
 subst hm hm';have he:=Qbn hu
 have:=run_slice_lh (P:=P) w t a n c (by rw [he]; exact hu) k k' (i:Int) (j:Int) Qb Qb Qb
 unfold execOp;simp [hρ _ _ hx,hρ _ _ hy,hρ _ _ hz,Instr.sliceAt,run_underlying hu,this,he,Qbf hi,Result.andThen]
theorem X.fullL {j:Nat} (hx:ev l x=some (.slice a n c)) (hy:ev l y=some (.int k m)) (hz:ev l z=some (.int k' m')) (hu:P.underlying t=some (.slice e)) (hi:(P.info? e).map (·.size)=some size) (hm:m=(j:Int)) (hm':m'=(j:Int)) (hin:j≤c):X P l (.slice t x none (some y) (some z)) ty w (sliced a 0 j j size) w:=fun ρ hρ=>by
 subst hm hm';have he:=Qbn hu
 have:=run_slice_hm (P:=P) w t a n c (by rw [he]; exact hu) k k' (j:Int) (j:Int) Qb Qb Qb
 unfold execOp;simp [hρ _ _ hx,hρ _ _ hy,hρ _ _ hz,Instr.sliceAt,run_underlying hu,this,he,Qbf hi,Result.andThen]
theorem Qop {p q r:Int} {ats:Array TypeId} (hx:ev l x=some (.int k p)) (hy:ev l y=some (.int k' q)) (hr:r=(if q<p then q else p)):X P l (.call { callee:=.builtin .min,args:=#[x,y],argTypes:=ats }) ty w (.int k r) w:=fun ρ hρ=>by
 subst hr;unfold execOp;simp only [resolve,invoke,builtin,Sem.run_bind,Sem.run_pure,Result.andThen_ok,List.map_toArray,List.map_cons,List.map_nil,hρ _ _ hx,hρ _ _ hy,run_min_int2]
theorem Qwi {p q r:Int} {ats:Array TypeId} (hx:ev l x=some (.int k p)) (hy:ev l y=some (.int k' q)) (hr:r=(if q > p then q else p)):X P l (.call { callee:=.builtin .max,args:=#[x,y],argTypes:=ats }) ty w (.int k r) w:=fun ρ hρ=>by
 subst hr;unfold execOp;simp only [resolve,invoke,builtin,Sem.run_bind,Sem.run_pure,Result.andThen_ok,List.map_toArray,List.map_cons,List.map_nil,hρ _ _ hx,hρ _ _ hy,run_max_int2]
end
theorem Qjl (a:Option Addr) (n c s:Nat):sliced a 0 n c s=.slice a n c:=by
 unfold sliced
 cases a with
 | none=>simp
 | some a=>simp [Addr.add]
theorem Row.full {w:World} {e:TypeId} {size n c:Nat} {a:Option Addr} {xs:List Value} (h:Row w e size (.slice a n c) n xs):Row w e size (.slice a n n) n xs:=by
 refine ⟨h.1,?_⟩
 rcases h.2 with ⟨hv,h0⟩|⟨g,off,cap,cur,fz,hv,hg,h1,h2,h3,h4,h5⟩
 ·injection hv with e1 e2 e3;subst e1 e2;exact .inl ⟨Z,Z⟩
 ·injection hv with e1 _ e3;subst e1 e3
  have:n*size≤c*size:=Nat.mul_le_mul_right _ h1
  exact .inr ⟨g,off,n,cur,fz,Z,hg,Nat.le_refl _,by omega,by omega,h4,h5⟩
theorem Row.store_ {w:World} {e:TypeId} {n cap g o:Nat} {xs:List Value} (h:Row w e 1 (.slice (some ⟨g,o,none⟩) n cap) n xs) (j:Nat) (hj:j<n) (u:Value):Row (w.setCell ⟨g,o+j,none⟩ u) e 1 (.slice (some ⟨g,o,none⟩) n cap) n (xs.set j u):=by
 refine ⟨by rw [List.length_set]; exact h.1,?_⟩
 rcases h.2 with ⟨h0,_⟩|⟨g',off,cap',cur,fz,hv,hg,h1,h2,h3,h4,h5⟩
 ·cases h0
 ·injection hv with ha _ hc;subst hc;injection ha with ha;injection ha with hg' ho;subst hg';subst ho;refine .inr ⟨g,o,cap,cur.setIfInBounds (o+j) u,fz,Z,by simp [World.setCell,Array.getElem?_modify,hg],h1,h2,by simpa using h3,?_,fun j hj=>h5 j (by simpa using hj)⟩;rw [← h4]
  apply List.ext_getElem?
  intro i;have hl:=h.1;rw [← h4] at hl;rw [List.getElem?_take,List.getElem?_set];simp only [Nat.mul_one] at *
  by_cases hi:i<n
  ·rw [if_pos hi,List.getElem?_drop,Array.getElem?_toList,Array.getElem?_setIfInBounds]
   by_cases hij:j=i
   ·subst hij;rw [if_pos rfl,if_pos Qb,if_pos rfl,if_pos Qb]
   ·rw [if_neg Qb,if_neg hij,List.getElem?_take,if_pos hi,List.getElem?_drop,Array.getElem?_toList]
  ·rw [if_neg hi,if_neg Qb,List.getElem?_take,if_neg hi]
theorem Row.stores {e:TypeId} {n cap g o:Nat}:∀ (vs:List Value) {w:World} {xs:List Value} (_:Row w e 1 (.slice (some ⟨g,o,none⟩) n cap) n xs) (i:Nat) (_:i+vs.length≤n),Row (w.setCells g (o+i) vs) e 1 (.slice (some ⟨g,o,none⟩) n cap) n (xs.take i++vs++xs.drop (i+vs.length))
 | [],w,xs,h,i,_=>by
  simp only [List.append_nil,List.length_nil,Nat.add_zero,List.take_append_drop];exact h
 | v::vs,w,xs,h,i,hi=>by
  have hl:=h.1;simp only [List.length_cons] at hi;have h1:=h.store_ i Qb v;have ih:=Row.stores vs h1 (i+1) Qb
  have e1:(xs.set i v).take (i+1)=xs.take i++[v]:=by
   rw [List.set_eq_take_append_cons_drop,if_pos Qb,List.take_append,List.length_take,Nat.min_eq_left Qb,List.take_of_length_le (by rw [List.length_take]; omega),show i+1-i=1 by omega]
   simp
  have e2:(xs.set i v).drop (i+1+vs.length)=xs.drop (i+(vs.length+1)):=by
   rw [List.set_eq_take_append_cons_drop,if_pos Qb,List.drop_append,List.length_take,Nat.min_eq_left Qb,List.drop_of_length_le (by rw [List.length_take]; omega),show i+1+vs.length-i=vs.length+1 by omega,List.drop_succ_cons,List.drop_drop,List.nil_append]
   congr 1
   omega
  rw [e1,e2] at ih;simp only [List.length_cons,List.append_assoc,List.singleton_append] at ih ⊢;exact ih
section
variable {P:Program} {N:Nat} {ds:List Deferred} {Q:Post} {l:Env} {w:World} {ops:Array Oper} {rest:List Oper} {x y:Operand} {ty t:TypeId} {pos:String} {aft:Array Edge} {d n c:Nat}
theorem scpW {e tx:TypeId} {s:List UInt8} {i:Nat} {a:Option Addr} {xs:List Value} (hx:ev l x=some (sliced a i n c 1)) (hy:ev l y=some (Qv s)) (hu:P.underlying t=some (.slice e)) (hi:(P.info? e).map (·.size)=some 1) (hR:Row w e 1 (.slice a n c) n xs) (hl:i+s.length≤n) (hd:Nat.blt d N=true)
  (h:∀ w',Row w' e 1 (.slice a n c) n (xs.take i++s.map bv++xs.drop (i+s.length))→Chg (fun k=>(Value.slice a n c).ownBlock=some k) w w'→WL P N ds ops Q rest ((d,.int .i64 s.length)::l) w') :
  WL P N ds ops Q (⟨some d,.call { callee:=.builtin .copy,args:=#[x,y],argTypes:=#[t,tx] },ty,pos,aft,none⟩::rest) l w:=by
 obtain ⟨q,hq,hq1⟩:=Option.map_eq_some_iff.1 hi
 have e1:(Builtin.lenOf (Qv s)).run P w=.ok s.length w:=by simp [Builtin.lenOf,Qv]; rfl
 have hfc:(Builtin.firstCells 1 s.length (Qv s)).run P w=.ok (s.map bv).toArray w:=by
  simp [Builtin.firstCells,Qv]
  exact fun _ _=>rfl
 have hmin:Nat.min s.length (n-i)=s.length:=Nat.min_eq_left Qb;have key:∀ w',(match (if c=i then a else a.map (·.add (i*1))) with|some b=>(storeCells b (s.map bv)).run P w|none=>.ok () w)=.ok () w'→Row w' e 1 (.slice a n c) n (xs.take i++s.map bv++xs.drop (i+s.length))→Chg (fun k=>(Value.slice a n c).ownBlock=some k) w w' →
   WL P N ds ops Q (⟨some d,.call { callee:=.builtin .copy,args:=#[x,y],argTypes:=#[t,tx] },ty,pos,aft,none⟩::rest) l w:=fun w' hst hR' hC=>by
  have hr:(Builtin.copy_ #[t,tx] ty #[sliced a i n c 1,Qv s]).run P w=.ok (.int .i64 s.length) w':=by
   unfold Builtin.copy_ sliced;simp only [List.getElem?_toArray,List.getElem?_cons_zero,List.getElem?_cons_succ,Sem.run_bind,run_underlying hu,Result.andThen_ok,e1,hmin,sizeOf,typeInfo]
   cases hb:(if c=i then a else a.map (·.add (i*1))) with
   | none =>
    rw [hb] at hst;injection hst with _ hst;subst hst;simp [hq,hq1,hfc,goInt]
   | some b =>
    rw [hb] at hst;simp [hq,hq1,hfc,hst,goInt]
  refine st (fun ρ hρ=>?_) hd<|h _ hR' hC
  unfold execOp;simp only [resolve,invoke,builtin,Sem.run_bind,Sem.run_pure,Result.andThen_ok,List.map_toArray,List.map_cons,List.map_nil,hρ _ _ hx,hρ _ _ hy,hr]
 rcases Nat.eq_zero_or_pos s.length with h0|h0
 ·obtain rfl:s=[]:=List.eq_nil_of_length_eq_zero h0
  refine key w ?_ (by simpa using hR)<|Chg.refl _ _
  split <;> rfl
 ·obtain ⟨g,off,cap,hv,hg,h1,h2,hc,hf⟩:=hR.form Qb;injection hv with ea _ ec;subst ea ec;have hlen:=hR.1
  have hst:=run_storeCells_cells (P:=P) g (off+i) (s.map bv) 0 w (fun j hj=>by
   rw [List.length_map] at hj;rw [show off+i+0+j=off+(i+j) by omega,hc (i+j) _ (List.getElem?_eq_getElem Qb)]
   rfl) (fun j hj=>by
   rw [List.length_map] at hj;rw [show off+i+0+j=off+(i+j) by omega]
   exact hf (i+j) Qb)<|Y5 s
  rw [Nat.add_zero] at hst;obtain ⟨k1,k2,k3,k4,k5⟩:=K6 g (s.map bv) (off+i) w;refine key (w.setCells g (off+i) (s.map bv)) ?_ ?_ ⟨k1,k2,k3,by omega,fun k _ hk=>k5 k (by rintro rfl; exact hk (by simp [Value.ownBlock]))⟩
  ·rw [if_neg Qb];simp only [Option.map_some,Addr.add_mid,Nat.mul_one];exact hst
  ·have:=hR.stores (s.map bv) i (by rw [List.length_map]; omega)
   rwa [List.length_map] at this
end
end
section
open Go.RowKit
theorem Qjy (v:Value) (l:List UInt8) (at_:Nat) (d:List UInt8) (w:World) (hR:Row w 5 1 v l.length (l.map bv)) (hat:at_≤l.length) (hlen:at_+d.length≤70368744177664) (hll:l.length≤70368744177664) :
  Calls Tryz.prog 97 #[v,.int .i64 at_,Qv d] w fun e w'=>∃ v',e=.returned v'∧Row w' 5 1 v' (JH l at_ d).length ((JH l at_ d).map bv)∧Chg (fun k=>v.ownBlock=some k) w w'∧∀ k,v'.ownBlock=some k→v.ownBlock=some k∨w.heap.size≤k:=by
 obtain ⟨a0,c0,rfl,hc0,_⟩:=hR.shape
 refine Qj (args:=[.slice a0 l.length c0,.int .i64 at_,Qv d]) 23 Tryz.func97 Z Z Z<|Qt [(0,.slice a0 l.length c0),(1,.int .i64 at_),(2,Qv d)] ?_ ⟨Z,Z,Z,tvA⟩
 have hcw:=Chg.refl (fun k=>(Value.slice a0 l.length c0).ownBlock=some k) w
 refine Qa<|sa Z Z<|Wn<|tN<|Qe<|Qp<|JG (fun nw1_ lw1_ w1=>∃ j:Nat,∃ a:Option Addr,∃ c:Nat,nw1_=(at_+d.length-l.length)-j∧lw1_=([(0,.slice a (l.length+j) c),(1,.int .i64 at_),(2,Qv d)]:Env)∧(j≤at_+d.length-l.length)∧(Chg (fun k=>(Value.slice a0 l.length c0).ownBlock=some k) w w1)∧(Row w1 5 1 (.slice a (l.length+j) c) (l.length+j) ((l++List.replicate j 0).map bv))∧(∀ k,(Value.slice a (l.length+j) c).ownBlock=some k→(Value.slice a0 l.length c0).ownBlock=some k∨w.heap.size≤k)) _ ⟨_,⟨0,a0,c0,Z,Z,by omega,hcw,by simpa using hR,fun k hk=>.inl hk⟩,⟨Z,Z,Z,tvA⟩⟩ ?_
 clear hcw;rintro nw1_ lw1_ w1 ⟨j,a,c,rfl,rfl,hj,hcw,hR,hO⟩
 refine Qe<|Qa<|sm Z Z<|st (QT Z Z uz114) Z<|sm Z Z<|sm Z Z<|st (QP Z Z uz9) Z<|st (Qn Z Z Qb) Z<|st (QJ Z Z) Z<|Wn<|tN<|Qx Z (fun h13=>?_) (fun h13=>?_)
 ·replace h13:=Qs h13
  refine Qf<|tN<|Qp<|Qw<|sm Z Z<|Zy Z uz114 inf5 Z Z QF QF Z (fun g15 w2 hR15 hg15 hb=>?_)
  replace hcw:=hcw.then_below hb;replace hR:=hR.bel hb;have zz2:=hb.size;clear hb;have hl15:=hR15.blt QF;refine Z4 Z Z uz114 inf5 Z QF hR (hR15.src uz114 (Y5 [0])) (by simp only [maxLen]; omega) Qb Z (fun v' w3 hR2 hC2 hv=>?_);obtain ⟨a',c',rfl,_,_⟩:=hR2.shape;have hzz:=hcw.size;replace hcw:=hcw.next hC2 (fun i hi=>hO i hi)
  replace hO:∀ k,(Value.slice a' (l.length+(j+1)) c').ownBlock=some k→(Value.slice a0 l.length c0).ownBlock=some k∨w.heap.size≤k:=fun k hk=>by
   rcases hv with hv|hv
   ·exact hO k<|hv.symm.trans hk
   ·rw [show (Value.slice a' (l.length+(j+1)) c').ownBlock=_ from hv] at hk;injection hk with hk
    omega
  replace hR:Row w3 5 1 (.slice a' (l.length+(j+1)) c') (l.length+(j+1)) ((l++List.replicate (j+1) 0).map bv):=by
   rw [List.replicate_succ',← List.append_assoc,List.map_append];exact hR2
  refine sa Z Z<|Wn<|bN<|tN ⟨_,_,?_,⟨j+1,a',c',Z,Z,by omega,hcw,hR,hO⟩,⟨Z,Z,Z,tvA⟩⟩
  omega
 ·replace h13:=Qs h13
  have hj2:j=at_+d.length-l.length:=by omega
  refine QQ<|tE<|tE<|bH<|tN<|Qa<|sm Z Z<|sm Z Z<|st (Qqg (i:=at_) Z Z uz114 siz5 Z Qb) Z<|sm Z Z<|scpW (i:=at_) Z Z uz114 siz5 hR Qb Z (fun w4 hR3 hC3=>?_)
  replace hcw:=hcw.next hC3 (fun i hi=>hO i hi)
  refine Wn<|tN<|Qa<|sm Z Z<|sa Z Z<|Wn<|tN<|Qg<|(rT Z Z ⟨_,Z,?_,hcw,hO⟩).1
  have e1:l.length+j=(JH l at_ d).length:=by rw [Jz hat]; omega
  have e2:((l++List.replicate j 0).map bv).take at_++d.map bv++((l++List.replicate j 0).map bv).drop (at_+d.length)=(JH l at_ d).map bv:=by
   unfold JH;rw [List.map_append,List.map_append,List.take_append_of_le_length (by simpa using hat),← List.map_take]
   by_cases hz:at_+d.length≤l.length
   ·obtain rfl:j=0:=by omega
    simp
   ·rw [List.drop_of_length_le (by simp; omega),List.drop_of_length_le Qb]
    simp
  rw [e2] at hR3;rw [← e1];exact hR3
theorem Row.one1 {w:World} {e:TypeId} {size n:Nat} {v:Value} {xs:List Value} (h:Row w e size v n xs):v.oneCell'=true:=by
 obtain ⟨a,c,rfl,_⟩:=h.shape
 rfl
theorem bslB (w:World):(Instr.buildSlice 114 0 #[]).run Tryz.prog w=.ok (.slice (some ⟨w.heap.size,0,none⟩) 0 0) (w.alloc (.cells #[] 5)):=by kernel_rfl
theorem X.slNil {P:Program} {l:Env} {x:Operand} {w:World} {t t' ty e:TypeId} {a:Option Addr} {n c:Nat} (hu:P.underlying t=some (.slice e)) (hx:ev l x=some (.slice a n c)):X P l (.binOp .eql t x (.const (.slice none 0 0)) t') ty w (.bool a.isNone) w :=
 JJ hx rfl (fun _ _=>by unfold eqGuard; simp) (Lib.run_eql_slice_nil w _ _ a n c 0 0 hu)
theorem Qph (v:Value) (l:List UInt8) (w:World) (hR:Row w 5 1 v l.length (l.map bv)) (hl:l.length≤70368744177664) :
  Calls Tryz.prog 107 #[v] w fun e w'=>∃ v',e=.returned v'∧Row w' 5 1 v' l.length (l.map bv)∧(∀ k,v'.ownBlock=some k→w.heap.size≤k)∧Below w.heap.size w w':=by
 obtain ⟨a,c,rfl,_,_⟩:=hR.shape
 refine Qj (args:=[.slice a l.length c]) 8 Tryz.func107 Z Z Z<|Qt [(0,.slice a l.length c)] ?_ ⟨Z,tvA⟩
 have bw:=Below.refl w.heap.size w
 refine Qa<|sa Z Z<|Wn<|tN<|Qe<|Qa<|sm Z Z<|st (X.slNil uz114 Z) Z<|Wn<|tN<|Qx Z (fun h4=>?_) (fun h4=>?_)
 ·replace h4:=Qs h4;obtain rfl:a=none:=Option.isNone_iff_eq_none.1 h4
  have h0:l=[]:=by
   rcases hR.2 with ⟨_,h0⟩|⟨g,off,cap,cur,fz,hv,_⟩
   ·exact List.eq_nil_of_length_eq_zero h0
   ·cases hv
  refine Qa<|sa Z Z<|Wn<|tN<|Qg<|tR ?_
  subst h0;exact (rT Z Z ⟨_,Z,Row.nil _ _ _,fun k hk=>by simp [Value.ownBlock] at hk,bw⟩).1
 ·replace h4:=Qs h4
  refine Qf<|tN<|Qa<|sbs (ps:=[]) (vs:=[]) (cs:=#[]) 1 Z (bslB _) (by simp [maxLen]) Z Z (fun g5 w1 hR5 hg5 hb=>?_)
  replace bw:=Ql bw hb;have hz5:=hb.size;clear hb
  refine sm Z Z<|Z4 Z Z uz114 inf5 Z QF hR5 ((hR.bel bw).src uz114 (Y5 l)) (by simp only [maxLen]; omega) Qb Z (fun v' w2 hR2 hC2 hv=>?_)
  have hO:∀ k,v'.ownBlock=some k→w.heap.size≤k:=JE hv (fun k hk=>by simp [Value.ownBlock] at hk; omega) Qb;replace bw:=KM bw hC2 (fun k hk=>by simp [Value.ownBlock] at hk; omega)
  refine sa Z Z<|Wn<|tN<|Qg<|(rT Z Z ⟨v',Z,?_,hO,bw⟩).1
  rw [Nat.zero_add] at hR2;exact hR2
theorem HS (g:Nat) (vl vn vp:Value) (l:List UInt8) (w:World) (hB:Blk w g 117 #[vl,vn,vp]) (hN:Row w 5 1 vn l.length (l.map bv)) (hl:l.length≤70368744177664) :
  Calls Tryz.prog 59 #[.pointer (some ⟨g,0,none⟩)] w fun e w'=>e=.returned (.tuple #[])∧∃ vl',Blk w' g 117 #[vl',vn,.slice none 0 0]∧Row w' 5 1 vl' l.length (l.map bv)∧Row w' 5 1 vn l.length (l.map bv)∧(∀ k,vl'.ownBlock=some k→w.heap.size≤k)∧Chg (fun k=>k=g) w w':=by
 have hlt:=hB.lt
 refine Qj (args:=[.pointer (some ⟨g,0,none⟩)]) 13 Tryz.func59 Z Z Z<|Qt [(0,.pointer (some ⟨g,0,none⟩))] ?_ ⟨Z,tvA⟩
 have hcw:=Chg.refl (fun k=>k=g) w
 refine Qw<|sm Z Z<|sm Z Z<|sm Z Z<|st (Qc Z) Z<|st (Qk Zr Z) Z<|st (Qi Z hB uz114 Z Z) Z<|sc _ Tryz.func107 Z Qo Z Z<|(Qph vn l _ hN hl).mono ?_
 rintro e_ w1 ⟨v',rfl,hV,hO,hb⟩;refine cR ?_;replace hcw:=hcw.then_below hb;replace hN:=hN.bel hb;replace hB:=hB.bel hb;have zz1:=hb.size;clear hb
 refine st (Qc Z) Z<|st (Qk VV Z) Z<|KL Z Z hB siz114 hV.one1 Q0 (fun w2 hB1 hC1=>?_)
 replace hV:=hV.chg hC1 (fun k hk e=>hV.ne_ hB QF (by rw [← e]; exact hk));replace hN:=hN.chg hC1 (fun k hk e=>hN.ne_ hB QF (by rw [← e]; exact hk));replace hcw:=hcw.next hC1 (fun i hi=>.inl hi)
 refine st (Qc Z) Z<|st (Qk XX Z) Z<|KL Z Z hB1 siz115 Z Q0 (fun w3 hB2 hC2=>?_)
 replace hV:=hV.chg hC2 (fun k hk e=>hV.ne_ hB1 QF (by rw [← e]; exact hk));replace hN:=hN.chg hC2 (fun k hk e=>hN.ne_ hB1 QF (by rw [← e]; exact hk));replace hcw:=hcw.next hC2 (fun i hi=>.inl hi);refine Wn ?_;exact (r0 Z ⟨Z,v',hB2,hV,hN,hO,hcw⟩).2
end
section
open Go.RowKit
theorem bwrite (i:Int) (s:List UInt8) (w:World):(Instr.build 163 #[(0,.int .i64 i),(1,Qv s)]).run Tryz.prog w=.ok (.agg #[.int .i64 i,Qv s]) w:=by kernel_rfl
theorem Row.ne2 {w:World} {e:TypeId} {size n:Nat} {v:Value} {xs:List Value} {g:Nat} {t:TypeId} {cs:Array Value} (h:Row w e size v n xs) (hB:Blk w g t cs) (hne:e≠t):∀ k,v.ownBlock=some k→¬k=g :=
 fun k hk e=>h.ne_ hB hne (by rw [← e]; exact hk)
theorem Qfd (a:Option Addr) (n c n' c':Nat):(Value.slice a n c).ownBlock=(Value.slice a n' c').ownBlock:=by cases a <;> rfl
theorem put_any (g b:Nat) (D:DiskD) (rs:List (Key×FRec)) (S:Nat→Prop) (n:Key) (r:FRec) (at_:Nat) (d:List UInt8) (w:World) (h:DiskIn w g b D rs S) (hok:DOk D) (hr:mget rs n=some r) (hat:at_≤r.f.now.length) (hd:d.length≤1099511627776) (hp:r.f.pend.length≤1099511627776) (href:D.refused≤4611686018427387904) :
  Calls Tryz.prog 74 #[.pointer (some ⟨g,0,none⟩),.pointer (some ⟨r.blk,0,none⟩),.int .i64 at_,Qv d] w fun e w'=>e=.returned (.int .i64 (Xe D n r.f at_ d).1)∧DiskAt w' g (Xe D n r.f at_ d).2 (Ext S w w')∧Chg S w w':=by
 have hB:Blk w g 50 #[.map (some b),.int .i64 D.limit,.int .i64 D.used,.int .i64 D.refused,.bool D.stops,.int .i64 D.left]:=h.blk;have hlt:=hB.lt
 have hfile:=h.at_ n r hr
 have hfn:mget D.files n=some r.f:=by rw [h.files,hr]; rfl
 have hF:=hfile.blk;have hflt:=hF.lt
 have hgf:r.blk≠g:=fun e=>(h.ne hr).1 (.inl e.symm)
 have hNo:=hfile.now;have hLa:=hfile.last;have hPe:=hfile.pend;obtain ⟨hn1,hn2,hn3⟩:=hok.len hfn;have hlim:=hok.lim;have hroom:=hok.room;have hused:=hok.used;have href0:=hok.ref;obtain ⟨an,cn,hvn,hcn,hcn2⟩:=hNo.shape;obtain ⟨ap,cp,hvp,hcp,hcp2⟩:=hPe.shape
 have hS1:∀ k,(k=g∨r.owns k)→S k:=fun k hk=>hk.elim (fun e=>e▸h.inS.1) (h.inR n r k hr)
 rw [hvn] at hNo hF;rw [hvp] at hPe hF
 have hmz:(KC r.f at_ d:Int)=if (0:Int) > (at_:Int)+d.length-r.f.now.length then 0 else (at_:Int)+d.length-r.f.now.length:=by unfold KC; split <;> omega
 have hml:KC r.f at_ d≤d.length:=by unfold KC; omega
 refine Qj (args:=[.pointer (some ⟨g,0,none⟩),.pointer (some ⟨r.blk,0,none⟩),.int .i64 at_,Qv d]) 80 Tryz.func74 Z Z Z<|Qt [(0,.pointer (some ⟨g,0,none⟩)),(1,.pointer (some ⟨r.blk,0,none⟩)),(2,.int .i64 at_),(3,Qv d)] ?_ ⟨Z,Z,Z,Z,tvA⟩
 have hcw:=Chg.refl (fun k=>k=g∨r.owns k) w
 refine Qa<|sa Z Z<|Wn<|tN<|Qe<|Qa<|sm Z Z<|st (KR Z Z) Z<|Wn<|tN<|Qx Z (fun h12=>?_) (fun h12=>?_)
 ·replace h12:=Qs h12
  refine Qa<|sa Z Z<|Wn<|tN<|Qg<|tR ?_
  subst h12;refine (rT Z Z ⟨Z,⟨b,rs,?_⟩,Chg.refl _ _⟩).1;exact h.mono Ext.of
 ·replace h12:=Qs h12
  refine Qf<|tN<|Qa<|sm Z Z<|sm Z Z<|st (QP Z Z uz9) Z<|st (Qn Z Z Qb) Z<|sm Z Z<|st (Qc Z) Z<|st (Qk Zr Z) Z<|st (Qi Z hF uz114 Z Z) Z<|st (QT Z Z uz114) Z<|st (JU Z Z Qb) Z<|st (Qwi (r:=(KC r.f at_ d:Nat)) Z Z hmz) Z<|sa Z Z<|Wn<|tN<|Qe<|UJ 10 Qo Qo ?_
  obtain ⟨w1,hw_,hb⟩:=QN w;rw [← hw_];clear hw_;replace hcw:=hcw.then_below hb;replace hB:=hB.bel hb;replace hF:=hF.bel hb;replace hNo:=hNo.bel hb;replace hLa:=hLa.bel hb;replace hPe:=hPe.bel hb;have zz1:=hb.size;clear hb
  refine hY (Qd Z) Z<|hY (Qc Z) Z<|hY (Qk K2 Z) Z<|hY (Qi Z hB uz3 Z Z) Z<|hY (Qd Z) Z<|hY (Qn Z Z Qb) Z<|hY (Qd Z) Z<|hY (Qc Z) Z<|hY (Qk fa50_1 Z) Z<|hY (Qi Z hB uz3 Z Z) Z<|hN<|st (Jg Z Z) Z<|Wn<|tN<|Qx Z (fun h34=>?_) (fun h34=>?_)
  ·replace h34:=Qs h34
   refine Qa<|sm Z Z<|st (Qc Z) Z<|st (Qk Qvn Z) Z<|st (Qi Z hB uz3 Z Z) Z<|st (Qn Z Z Qb) Z<|st (Qc Z) Z<|st (Qk Qvn Z) Z<|KL Z Z hB siz3 Z Q0 (fun w2 hB2 hC2=>?_)
   replace hLa:=hLa.chg hC2 (hLa.ne2 hB QF);replace hPe:=hPe.chg hC2 (hPe.ne2 hB QF);replace hNo:=hNo.chg hC2 (hNo.ne2 hB QF);replace hF:=hF.chg hC2 hgf;replace hcw:=hcw.next hC2 (fun i hi=>.inl (.inl hi))
   refine Wn<|tN<|Qa<|sa Z Z<|Wn<|tN<|Qg<|tR ?_
   have e1:Xe D n r.f at_ d=(17,{ D with refused:=D.refused+1 }):=by unfold Xe; rw [if_neg h12,if_pos Qb]
   rw [e1];refine (rT Z Z ⟨Z,⟨b,_,h.file (r':=r) hr hcw hB2 ?_ ⟨by rw [hvn,hvp]; exact hF,hLa,by rw [hvn]; exact hNo,by rw [hvp]; exact hPe,hfile.apart⟩ Z (fun k hk=>.inl hk)⟩,hcw.mono (fun k _ hk=>hS1 k hk)⟩).1;intro m
   show mget D.files m=_
   split
   ·rename_i hm
    rw [hm,hfn]
   ·rfl
  ·replace h34:=Qs h34
   refine Qf<|tN<|Qa<|sm Z Z<|sm Z Z<|st (Qc Z) Z<|st (Qk Zr Z) Z<|st (Qi Z hF uz114 Z Z) Z<|sm Z Z<|sm Z Z<|sc _ Tryz.func97 Z Qo Z Z<|(Qjy _ r.f.now at_ d _ hNo hat Qb Qb).mono ?_
   rintro e_ w3 ⟨v',rfl,hNw,hC1,hO1⟩;refine cR ?_;replace hB:=hB.chg hC1 (fun e=>hNo.ne2 hB QF _ e rfl);replace hF:=hF.chg hC1 (fun e=>hNo.ne2 hF QF _ e rfl);replace hLa:=hLa.chg hC1 (fun k hk e=>hfile.apart k hk (by rw [hvn]; exact e));replace hPe:=hPe.chg hC1 (fun k hk=>hPe.apart_ hNo QF k hk);replace hcw:=hcw.next hC1 (fun i hi=>.inl (.inr (.inr (.inr (.inl (by rw [hvn]; exact hi))))))
   refine st (Qc Z) Z<|st (Qk Zr Z) Z<|KL Z Z hF siz114 hNw.one1 Q0 (fun w4 hF2 hC2=>?_)
   replace hB:=hB.chg hC2 (fun e=>hgf e.symm);replace hLa:=hLa.chg hC2 (hLa.ne2 hF QF);replace hPe:=hPe.chg hC2 (hPe.ne2 hF QF);replace hNw:=hNw.chg hC2 (hNw.ne2 hF QF);replace hF:Blk w4 r.blk 117 #[r.vl,v',.slice ap r.f.pend.length cp]:=hF2;replace hcw:=hcw.next hC2 (fun i hi=>.inl (.inr (.inl hi)));clear hF2 hNo
   refine Wn<|tN<|Qa<|sm Z Z<|st (Qc Z) Z<|st (Qk XX Z) Z<|st (Qi Z hF uz115 Z Z) Z<|st (QT Z Z uz115) Z<|sa Z Z<|Wn<|tN<|Qa<|sm Z Z<|sm Z Z<|st (Qc Z) Z<|st (Qk XX Z) Z<|st (Qi Z hF uz115 Z Z) Z<|sm Z Z<|sm Z Z<|st (X.fullL (j:=r.f.pend.length) Z Z Z uz115 siz163 Z Z hcp) Z ?_
   rw [Qjl]
   refine sm Z Z<|sm Z Z<|st (Ja Z (bwrite _ _ _)) Z<|Zy Z uz115 inf163 Z Z QF QF Z (fun g68 w5 hR68 hg68 hb=>?_)
   replace hB:=hB.bel hb;replace hF:=hF.bel hb;replace hLa:=hLa.bel hb;replace hPe:=hPe.bel hb;replace hNw:=hNw.bel hb;replace hcw:=hcw.then_below hb;clear hb;refine Z4 Z Z uz115 inf163 Z QF hPe.full (hR68.src uz115 (VH (at_,d))) (by simp only [maxLen]; omega) Qb Z (fun vq w6 hPw hC4 hv4=>?_);have hzc:=hcw.size;replace hB:=hB.chg hC4 (fun e=>hPe.full.ne2 hB QF _ e rfl);replace hF:=hF.chg hC4 (fun e=>hPe.full.ne2 hF QF _ e rfl);replace hLa:=hLa.chg hC4 (fun k hk=>hLa.apart_ hPe.full QF k hk);replace hNw:=hNw.chg hC4 (fun k hk=>hNw.apart_ hPe.full QF k hk);replace hcw:=hcw.next hC4 (fun i hi=>.inl (.inr (.inr (.inr (.inr (by rw [hvp]; exact (Qfd ..).trans hi))))))
   have hO4:∀ k,vq.ownBlock=some k→r.vp.ownBlock=some k∨w.heap.size≤k:=fun k hk=>by
    rcases hv4 with hv4|hv4
    ·left
     rw [hvp]
     exact (Qfd ..).trans<|hv4.symm.trans hk
    ·rw [hv4] at hk;injection hk with hk
     right
     omega
   refine st (Qc Z) Z<|st (Qk XX Z) Z<|KL Z Z hF siz115 hPw.one1 Q0 (fun w7 hF2 hC2=>?_)
   replace hB:=hB.chg hC2 (fun e=>hgf e.symm);replace hLa:=hLa.chg hC2 (hLa.ne2 hF QF);replace hPw:=hPw.chg hC2 (hPw.ne2 hF QF);replace hNw:=hNw.chg hC2 (hNw.ne2 hF QF);replace hF:Blk w7 r.blk 117 #[r.vl,v',vq]:=hF2;replace hcw:=hcw.next hC2 (fun i hi=>.inl (.inr (.inl hi)));clear hF2
   refine Wn<|tN<|Qa<|sm Z Z<|st (Qc Z) Z<|st (Qk K2 Z) Z<|st (Qi Z hB uz3 Z Z) Z<|sm Z Z<|st (Qn Z Z Qb) Z<|st (Qc Z) Z<|st (Qk K2 Z) Z<|KL Z Z hB siz3 Z Q0 (fun w8 hB2 hC2=>?_)
   replace hLa:=hLa.chg hC2 (hLa.ne2 hB QF);replace hPw:=hPw.chg hC2 (hPw.ne2 hB QF);replace hNw:=hNw.chg hC2 (hNw.ne2 hB QF);replace hF:=hF.chg hC2 hgf;replace hcw:=hcw.next hC2 (fun i hi=>.inl (.inl hi))
   refine Wn<|tN<|Qa<|sa Z Z<|Wn<|tN<|Qg ?_
   have e1:Xe D n r.f at_ d=(0,{ D with files:=sput D.files n (Xw r.f at_ d),used:=D.used+KC r.f at_ d }):=by unfold Xe; rw [if_neg h12,if_neg Qb]
   rw [e1];refine (rT Z Z ⟨Z,⟨b,_,h.file (r':=⟨r.blk,r.vl,v',vq,Xw r.f at_ d⟩) hr hcw hB2 ?_ ⟨hF,hLa,hNw,?_,?_⟩ Z ?_⟩,hcw.mono (fun k _ hk=>hS1 k hk)⟩).1
   ·intro m;exact Zv hok.srt n _ m
   ·show Row _ _ 2 vq (r.f.pend++[(at_,d)]).length ((r.f.pend++[(at_,d)]).flatMap QR)
    rw [List.length_append,List.flatMap_append];exact hPw
   ·intro k hk hk2
    rcases hO1 k hk2 with e|e
    ·exact hfile.apart k hk (by rw [hvn]; exact e)
    ·have:=hfile.lt (.inr (.inl hk))
     omega
   ·rintro k (e|e|e|e)
    ·exact .inl<|.inl e
    ·exact .inl<|.inr<|.inl e
    ·rcases hO1 k e with e|e
     ·exact .inl<|.inr<|.inr<|.inl (by rw [hvn]; exact e)
     ·exact .inr Qb
    ·rcases hO4 k e with e|e
     ·exact .inl<|.inr<|.inr<|.inr e
     ·exact .inr e
end
section
open Go.RowKit
def DPost (g:Nat) (S:Nat→Prop) (w:World) (x:Int×DiskD) (e:Ending) (w':World):Prop:=e=.returned (.int .i64 x.1)∧DiskAt w' g x.2 (Ext S w w')∧Chg S w w'
structure DBud (D:DiskD):Prop where
  pend:∀ n f,mget D.files n=some f→pendLen f.pend≤1099511627776∧f.pend.length≤1099511627776
  ref:D.refused≤4611686018427387904
theorem Qby {D:DiskD} (h:DBud D):DBud (QH D):=by
 unfold QH
 split
 ·exact ⟨h.pend,h.ref⟩
 ·exact h
theorem Q6 {D:DiskD} (hl:¬(D.stops=true∧D.left=0)) (k:DiskD→Int×DiskD):opM D k=k (QH D):=if_neg hl
theorem ZY {D:DiskD} (hl:D.stops=true∧D.left=0) (k:DiskD→Int×DiskD):opM D k=(19,D):=if_pos hl
theorem QW {D:DiskD} {n:Key} {f:FileD} (h:mget D.files n=some f) (k:FileD→Int×DiskD):Ym D n k=k f:=by unfold Ym; rw [h]
theorem Jd {D:DiskD} {n:Key} (h:mget D.files n=none) (k:FileD→Int×DiskD):Ym D n k=(15,D):=by unfold Ym; rw [h]
theorem Jy {D:DiskD} {n:Key} {o:Option FileD} (h:mget D.files n=o):mget (QH D).files n=o:=by rw [Zh]; exact h
section
variable {w w1 w':World} {g:Nat} {S:Nat→Prop} {D:DiskD} {x:Int×DiskD} {e:Ending}
theorem DPost.same (h:DiskAt w g D S) (hb:Below w.heap.size w w') {i:Int} (he:x=(i,D)):DPost g S w x (.returned (.int .i64 i)) w':=by
 subst he;exact ⟨Z,(h.bel hb).mono Ext.of,Chg.of_below hb S⟩
theorem DPost.of {b:Nat} {rs:List (Key×FRec)} (h:DiskIn w' g b D rs S) (hC:Chg S w w') {i:Int} (he:x=(i,D)):DPost g S w x (.returned (.int .i64 i)) w':=by
 subst he;exact ⟨Z,⟨b,rs,h.mono Ext.of⟩,hC⟩
theorem Ext.up (hz:w.heap.size≤w1.heap.size):∀ k,Ext S w1 w' k→Ext S w w' k:=fun k hk=>hk.imp id (fun e=>⟨by omega,e.2⟩)
theorem DPost.up (hC:Chg S w w1) (hD:DiskAt w' g x.2 (Ext S w1 w')) (hC2:Chg S w1 w') {y:Int×DiskD} (he:y=x):DPost g S w y (.returned (.int .i64 x.1)) w':=by
 subst he;exact ⟨Z,hD.mono (Ext.up hC.size),hC.next hC2 (fun _ h=>.inl h)⟩
end
theorem bdisk (b:Nat) (n:Int) (w:World):(Instr.build 50 #[(0,.map (some b)),(1,.int .i64 n)]).run Tryz.prog w=.ok (.agg (Z7 b (YC n))) w:=by kernel_rfl
theorem Qxg (n:Int) (w:World) (hn:0≤n∧n≤16777216) :
  Calls Tryz.prog 4 #[.int .i64 n] w fun e w'=>∃ g S,e=.returned (.tuple #[.pointer (some ⟨g,0,none⟩),.int .i64 0])∧DiskAt w' g (YC n) S∧(∀ k,S k→w.heap.size≤k∧k<w'.heap.size)∧Below w.heap.size w w':=by
 refine Qj (args:=[.int .i64 n]) 14 fz4 Z Z Z<|Qt [(0,.int .i64 n)] ?_ ⟨Z,tvA⟩
 have bw:=Below.refl w.heap.size w
 refine Qa<|sa Z Z<|sa Z Z<|Wn<|tN<|Qe<|Qa<|sm Z Z<|st (QJ Z Z) Z<|sb Z Z (fun h6=>?_) (fun h6=>?_)
 ·replace h6:=Qs h6
  omega
 ·replace h6:=Qs h6
  refine gY Z Z Z<|sm Z Z<|gY Z Z Z<|st (Jg Z Z) Z<|st (Qq Z Z) Z<|Wn<|tN<|QX Z (decide_eq_false Qb)<|Qf<|tN<|Qa<|smm (κ:=Key) (enc:=Qv) (encv:=ZP) Z (fun b w1 hM hbg hb hbl=>?_)
  replace bw:=Ql bw hb;clear hb
  refine sm Z Z<|st (Ja Z (bdisk _ _ _)) Z<|J1 Z Z (fun g13 w2 hB13 hg13 hb hl13=>?_)
  have pq:=hb;replace bw:=Ql bw hb;have zz2:=hb.size;clear hb
  refine sa Z Z<|sa Z Z<|Wn<|tN ?_
  replace hM:=hM.bel pq;clear pq;refine Qg ?_;have hM':=hM;have hMl:=hM'.lt;refine (J6 Z Z Z ⟨g13,fun k=>k=g13∨k=b,Z,⟨b,[],hB13,hM',fun n=>rfl,fun n r hr=>(by cases hr),fun n m r s k hr=>(by cases hr),⟨.inl Z,.inr Z⟩,fun n r k hr=>(by cases hr)⟩,fun k hk=>?_,bw⟩).1
  rcases hk with rfl|rfl <;> omega
theorem New_bad (n:Int) (w:World) (hn:¬(0≤n∧n≤16777216)) :
  Calls Tryz.prog 4 #[.int .i64 n] w fun e w'=>e=.returned (.tuple #[.pointer none,.int .i64 1])∧Below w.heap.size w w':=by
 refine Qj (args:=[.int .i64 n]) 14 fz4 Z Z Z<|Qt [(0,.int .i64 n)] ?_ ⟨Z,tvA⟩
 have bw:=Below.refl w.heap.size w
 refine Qa<|sa Z Z<|sa Z Z<|Wn<|tN<|Qe<|Qa<|sm Z Z<|st (QJ Z Z) Z<|sb Z Z (fun h6=>?_) (fun h6=>?_)
 ·replace h6:=Qs h6
  refine gN Z Z Z Z<|gN Z Z Z Z<|st (Qm Z Z) Z<|Wn<|tN<|QO Z (Z)<|Qa<|sa Z Z<|sa Z Z<|Wn<|tN<|Qg<|tR ?_
  exact (J6 Z Z Z ⟨Z,bw⟩).1
 ·replace h6:=Qs h6
  refine gY Z Z Z<|sm Z Z<|gY Z Z Z<|st (Jg Z Z) Z<|st (Qq Z Z) Z<|Wn<|tN<|QO Z (decide_eq_true Qb)<|Qa<|sa Z Z<|sa Z Z<|Wn<|tN<|Qg<|tR ?_
  exact (J6 Z Z Z ⟨Z,bw⟩).1
theorem Qwt (g:Nat) (D:DiskD) (S:Nat→Prop) (w:World) (h:DiskAt w g D S):Calls Tryz.prog 9 #[.pointer (some ⟨g,0,none⟩)] w fun e w'=>e=.returned (.int .i64 D.used)∧Below w.heap.size w w':=by
 obtain ⟨b,rs,h⟩:=h;have hB:Blk w g 50 #[.map (some b),.int .i64 D.limit,.int .i64 D.used,.int .i64 D.refused,.bool D.stops,.int .i64 D.left]:=h.blk
 refine Qj (args:=[.pointer (some ⟨g,0,none⟩)]) 9 Tryz.func9 Z Z Z<|Qt [(0,.pointer (some ⟨g,0,none⟩))] ?_ ⟨Z,tvA⟩
 have bw:=Below.refl w.heap.size w
 refine Qa<|sa Z Z<|Wn<|tN<|Qe<|Qa<|sm Z Z<|st (Qam Z) Z<|Wn<|tN<|QX Z (Z)<|Qf<|tN<|Qa<|sm Z Z<|st (Qc Z) Z<|st (Qk K2 Z) Z<|st (Qi Z hB uz3 Z Z) Z<|sa Z Z<|Wn<|tN<|Qg ?_
 exact (rT Z Z ⟨Z,bw⟩).1
theorem Qlu (g:Nat) (D:DiskD) (S:Nat→Prop) (n:Key) (w:World) (h:DiskAt w g D S):Calls Tryz.prog 30 #[.pointer (some ⟨g,0,none⟩),Qv n] w fun e w'=>e=.returned (.tuple #[.int .i64 (ZS D n).1,.int .i64 (ZS D n).2])∧Below w.heap.size w w':=by
 obtain ⟨b,rs,h⟩:=h;unfold ZS;rw [h.files]
 cases hr:mget rs n with
 | none =>
  refine Qj (args:=[.pointer (some ⟨g,0,none⟩),Qv n]) 22 fz30 Z Z Z<|Qt [(0,.pointer (some ⟨g,0,none⟩)),(1,Qv n)] ?_ ⟨Z,Z,tvA⟩
  have bw:=Below.refl w.heap.size w
  refine Qa<|sa Z Z<|sa Z Z<|Wn<|tN<|Qa<|sm Z Z<|sm Z Z<|sc _ fz58 Z Qo Z Z (Q3 (K0 g b D rs S n _ (h.bel bw) hr) fun w1 hb=>?_)
  replace bw:=Ql bw hb;have zz1:=hb.size;clear hb
  refine sm Z Z<|st (Qu Z Z) Z<|st (Qu Z Z) Z<|sa Z Z<|sa Z Z<|Wn<|tN<|Qe<|Qa<|sm Z Z<|st (QC Z Z) Z<|Wn<|tN<|QO Z (Z)<|Qa<|sm Z Z<|sa Z Z<|sa Z Z<|Wn<|tN<|Qg<|tR ?_
  exact (J6 Z Z Z ⟨Z,bw⟩).1
 | some r =>
  have hfile:=h.at_ n r hr
  have hF:=hfile.blk;obtain ⟨a,c,hvn,_⟩:=hfile.now.shape;rw [hvn] at hF
  refine Qj (args:=[.pointer (some ⟨g,0,none⟩),Qv n]) 22 fz30 Z Z Z<|Qt [(0,.pointer (some ⟨g,0,none⟩)),(1,Qv n)] ?_ ⟨Z,Z,tvA⟩
  have bw:=Below.refl w.heap.size w
  refine Qa<|sa Z Z<|sa Z Z<|Wn<|tN<|Qa<|sm Z Z<|sm Z Z<|sc _ fz58 Z Qo Z Z (Q3 (Kn g b D rs S n r _ (h.bel bw) hr) fun w1 hb=>?_)
  replace bw:=Ql bw hb;replace hF:=hF.bel hb;have zz1:=hb.size;clear hb
  refine sm Z Z<|st (Qu Z Z) Z<|st (Qu Z Z) Z<|sa Z Z<|sa Z Z<|Wn<|tN<|Qe<|Qa<|sm Z Z<|st (QC Z Z) Z<|Wn<|tN<|QX Z (Z)<|Qf<|tN<|Qa<|sm Z Z<|st (Qc Z) Z<|st (Qk Zr Z) Z<|st (Qi Z hF uz114 Z Z) Z<|st (QT Z Z uz114) Z<|sa Z Z<|sa Z Z<|Wn<|tN<|Qg ?_
  exact (J6 Z Z Z ⟨Z,bw⟩).1
theorem Qlv (g:Nat) (D:DiskD) (S:Nat→Prop) (n:Key) (i k:Int) (w:World) (h:DiskAt w g D S) (hok:DOk D):Calls Tryz.prog 102 #[.pointer (some ⟨g,0,none⟩),Qv n,.int .i64 i,.int .i64 k] w fun e w'=>e=.returned (.tuple #[Qv (Kd D n i k).1,.int .i64 (Kd D n i k).2])∧Below w.heap.size w w':=by
 obtain ⟨b,rs,h⟩:=h;unfold Kd;have hff:=h.files n
 cases hr:mget rs n with
 | none =>
  rw [h.files,hr]
  refine Qj (args:=[.pointer (some ⟨g,0,none⟩),Qv n,.int .i64 i,.int .i64 k]) 56 Tryz.func102 Z Z Z<|Qt [(0,.pointer (some ⟨g,0,none⟩)),(1,Qv n),(2,.int .i64 i),(3,.int .i64 k)] ?_ ⟨Z,Z,Z,Z,tvA⟩
  have bw:=Below.refl w.heap.size w
  refine Qa<|sa Z Z<|sa Z Z<|Wn<|tN<|Qa<|sm Z Z<|sm Z Z<|sc _ fz58 Z Qo Z Z (Q3 (K0 g b D rs S n _ (h.bel bw) hr) fun w1 hb=>?_)
  replace bw:=Ql bw hb;have zz1:=hb.size;clear hb
  refine sm Z Z<|st (Qu Z Z) Z<|st (Qu Z Z) Z<|sa Z Z<|sa Z Z<|Wn<|tN<|Qe<|Qp<|Qa<|sm Z Z<|st (QC Z Z) Z<|sa Z Z<|Wn<|tN<|QO Z (Z)<|Qa<|sm Z Z<|sa Z Z<|sa Z Z<|Wn<|tN<|Qg<|bR<|tR ?_
  exact (J6 Z Z Z ⟨Z,bw⟩).1
 | some r =>
  rw [hr] at hff;rw [hff]
  have hfile:=h.at_ n r hr
  have hF:=hfile.blk;have hNo:=hfile.now;have hlen:=(hok.len hff).1;obtain ⟨a,c,hvn,hc1,_⟩:=hfile.now.shape;rw [hvn] at hF hNo;simp only [Option.map_some]
  refine Qj (args:=[.pointer (some ⟨g,0,none⟩),Qv n,.int .i64 i,.int .i64 k]) 56 Tryz.func102 Z Z Z<|Qt [(0,.pointer (some ⟨g,0,none⟩)),(1,Qv n),(2,.int .i64 i),(3,.int .i64 k)] ?_ ⟨Z,Z,Z,Z,tvA⟩
  have bw:=Below.refl w.heap.size w
  refine Qa<|sa Z Z<|sa Z Z<|Wn<|tN<|Qa<|sm Z Z<|sm Z Z<|sc _ fz58 Z Qo Z Z (Q3 (Kn g b D rs S n r _ (h.bel bw) hr) fun w1 hb=>?_)
  replace bw:=Ql bw hb;replace hF:=hF.bel hb;replace hNo:=hNo.bel hb;have zz1:=hb.size;clear hb
  refine sm Z Z<|st (Qu Z Z) Z<|st (Qu Z Z) Z<|sa Z Z<|sa Z Z<|Wn<|tN<|Qe<|Qp<|Qa<|sm Z Z<|st (QC Z Z) Z<|sa Z Z<|Wn<|tN<|QX Z (Z)<|Qa<|sm Z Z<|st (QJ Z Z) Z<|sb Z Z (fun h25=>?_) (fun h25=>?_)
  ·replace h25:=Qs h25
   refine gN Z Z Z Z<|gN Z Z Z Z<|st (Qm Z Z) Z<|sm Z Z<|gN Z Z Z Z<|gN Z Z Z Z<|gN Z Z Z Z<|gN Z Z Z Z<|gN Z Z Z Z<|gN Z Z Z Z<|gN Z Z Z Z<|st (Qm Z Z) Z<|sa Z Z<|Wn<|tN<|QO Z (Z)<|Qa<|sa Z Z<|sa Z Z<|Wn<|tN<|Qg<|bR<|tR ?_
   rw [if_pos Qb];exact (J6 Z Z Z ⟨Z,bw⟩).1
  ·replace h25:=Qs h25
   refine gY Z Z Z<|sm Z Z<|gY Z Z Z<|st (QJ Z Z) Z<|st (Qq Z Z) Z<|sb Z Z (fun h29=>?_) (fun h29=>?_)
   ·replace h29:=Qs h29
    refine gN Z Z Z Z<|gN Z Z Z Z<|gN Z Z Z Z<|gN Z Z Z Z<|gN Z Z Z Z<|gN Z Z Z Z<|gN Z Z Z Z<|st (Qm Z Z) Z<|sa Z Z<|Wn<|tN<|QO Z (Z)<|Qa<|sa Z Z<|sa Z Z<|Wn<|tN<|Qg<|bR<|tR ?_
    rw [if_pos Qb];exact (J6 Z Z Z ⟨Z,bw⟩).1
   ·replace h29:=Qs h29
    refine gY Z Z Z<|sm Z Z<|gY Z Z Z<|sm Z Z<|gY Z Z Z<|st (Qc Z) Z<|gY Z Z Z<|st (Qk Zr Z) Z<|gY Z Z Z<|st (Qi Z hF uz114 Z Z) Z<|gY Z Z Z<|st (QT Z Z uz114) Z<|gY Z Z Z<|st (Jg Z Z) Z<|st (Qq Z Z) Z<|sa Z Z<|Wn<|tN<|Qx Z (fun h22=>?_) (fun h22=>?_)
    ·replace h22:=Qs h22
     refine Qa<|sa Z Z<|sa Z Z<|Wn<|tN<|Qg<|bR<|tR ?_
     rw [if_pos Qb];exact (J6 Z Z Z ⟨Z,bw⟩).1
    ·replace h22:=Qs h22
     refine Qf<|bN<|tN<|UJ 18 Qo Qo ?_
     obtain ⟨w2,hw_,hb⟩:=QN w1;rw [← hw_];clear hw_;replace bw:=Ql bw hb;replace hF:=hF.bel hb;replace hNo:=hNo.bel hb;have zz2:=hb.size;clear hb
     refine hY (Qd Z) Z<|hY (Qc Z) Z<|hY (Qk Zr Z) Z<|hY (Qi Z hF uz114 Z Z) Z<|hY (Qd Z) Z<|hY (Qd Z) Z<|hY (Qd Z) Z<|hY (Qd Z) Z<|hY (Qc Z) Z<|hY (Qk Zr Z) Z<|hY (Qi Z hF uz114 Z Z) Z<|hY (QT Z Z uz114) Z<|hY (Qd Z) Z<|hY (JU Z Z Qb) Z ?_
     have hmn:(i.toNat+min k.toNat (r.f.now.length-i.toNat):Nat)=i+(if (r.f.now.length:Int)-i<k then (r.f.now.length:Int)-i else k):=by split <;> omega
     refine hY (Qop Z Z Z) Z<|hY (Qn Z Z Qb) Z<|hY (X.cutL (i:=i.toNat) (j:=i.toNat+min k.toNat (r.f.now.length-i.toNat)) Z Z Z uz114 siz5 Qb (by rw [← hmn]) Qb Qb) Z ?_
     refine hY (Zs (s:=(r.f.now.take (i.toNat+min k.toNat (r.f.now.length-i.toNat))).drop i.toNat) (q:=i.toNat+min k.toNat (r.f.now.length-i.toNat)-i.toNat) Z uz114 uz5 uz9 (by
 have:=(hNo.cut rfl i.toNat (i.toNat+min k.toNat (r.f.now.length-i.toNat)) Qb Qb).reads
 rw [Nat.mul_one,Nat.mul_one,← List.map_take,← List.map_drop] at this
 exact this)) Z ?_
     refine hN<|sa Z Z<|sa Z Z<|Wn<|tN<|Qg ?_
     rw [if_neg Qb];refine (J6 Z Z Z ⟨?_,bw⟩).1;rw [List.drop_take,Nat.add_sub_cancel_left]
     have e1:(r.f.now.drop i.toNat).take k.toNat=(r.f.now.drop i.toNat).take (min k.toNat (r.f.now.length-i.toNat)):=by rw [List.take_eq_take_min,List.length_drop]
     rw [e1]
end
section
open Go.RowKit
theorem shr1i (y:UInt32):(y.toNat:Int) / (2:Int)=((y >>> 1).toNat:Int):=K5 y 1 Qb
theorem Qnp (x:UInt32) (w:World):Calls Tryz.prog 203 #[.int .u32 x.toNat] w fun e w'=>e=.returned (.int .u32 (Crc.half x).toNat)∧w=w':=by
 have h1:((x.toNat:Int) / 2)=((x >>> 1).toNat:Int):=K5 x 1 Qb
 refine Qj (args:=[.int .u32 x.toNat]) 11 Tryz.func203 Z Z Z<|Qt [(0,.int .u32 x.toNat)] ?_ ⟨Z,tvA⟩
 refine Qa<|sa Z Z<|Wn<|tN<|Qe<|Qa<|sm Z Z<|st (Zn Q0 Z Z (Qil x 1)) Z ?_
 refine st (QL Z Z) Z<|Wn<|tN<|Qx Z (fun h5=>?_) (fun h5=>?_)
 ·replace h5:=Qs h5
  refine Qa<|sm Z Z<|st (Qoo (q:=2) Z Z QF QF Z Z h1) Z<|st (Zn Q0 Z Z (Kj _ Crc.poly)) Z ?_
  refine sa Z Z<|Wn<|tN<|Qg<|tR<|(rT Z Z ⟨?_,Z⟩).1
  unfold Crc.half; rw [if_pos (UInt32.toNat.inj (by show _=1; omega))]
 ·replace h5:=Qs h5
  refine Qf<|tN<|Qa<|sm Z Z<|st (Qoo (q:=2) Z Z QF QF Z Z h1) Z<|sa Z Z<|Wn<|tN<|Qg<|(rT Z Z ⟨?_,Z⟩).1
  unfold Crc.half; rw [if_neg (fun e=>h5 (by rw [e]; rfl))]
def halfN:Nat→UInt32→UInt32
  | 0,x=>x
  | n+1,x=>Crc.half (halfN n x)
theorem row_any (b:UInt8) (w:World):Calls Tryz.prog 182 #[.int .u8 b.toNat] w fun e w'=>e=.returned (.int .u32 (Crc.row b).toNat)∧w=w':=by
 refine Qj (args:=[.int .u8 b.toNat]) 12 Tryz.func182 Z Z Z<|Qt [(0,.int .u8 b.toNat)] ?_ ⟨Z,tvA⟩
 refine Qa<|sa Z Z<|Wn<|tN<|Qa<|sm Z Z<|st (QM Z uz5 uz143 ((w32 _).trans (HG b))) Z<|sa Z Z<|Wn<|tN<|Qe<|Qa<|sm Z Z<|Wn<|tN<|Qp<|JG (fun nw1_ lw1_ w1=>∃ j:Nat,nw1_=8-j∧lw1_=([(3,.int .u32 (halfN j b.toUInt32).toNat),(6,.int .i64 j)]:Env)∧(j≤8)∧(w=w1)) _ ⟨_,⟨0,Z,Z,by omega,Z⟩,⟨Z,Z,tvA⟩⟩ ?_
 rintro nw1_ lw1_ w1 ⟨j,rfl,rfl,hj,hw⟩
 refine Qa<|st (QJ Z Z) Z<|Wn<|tN<|Qe<|Qx Z (fun h7=>?_) (fun h7=>?_)
 ·replace h7:=Qs h7
  refine Qf<|tN<|Qe<|Qp<|Qw<|sm Z Z<|sc _ Tryz.func203 Z Qo Z Z<|(Qnp (halfN j b.toUInt32) _).mono ?_
  rintro e_ w_ ⟨rfl,rfl⟩
  refine cR<|sa Z Z<|Wn<|bN<|tN<|Qw<|st (Qn Z Z Qb) Z<|sm Z Z<|Wn<|tN ⟨_,_,?_,⟨j+1,Z,Z,by omega,hw⟩,⟨Z,Z,tvA⟩⟩
  omega
 ·replace h7:=Qs h7
  refine QQ<|tE<|tE<|bH<|tN<|Qa<|sm Z Z<|sa Z Z<|Wn<|tN<|Qg<|(rT Z Z ⟨?_,hw⟩).1
  obtain rfl:j=8:=by omega
  rfl
theorem Xp (n:Nat) (v:Value):(List.replicate n v).toArray.size=n:=by simp
def tabV:Array Value:=((List.range 256).map fun k=>Value.int .u32 (Crc.row (UInt8.ofNat k)).toNat).toArray
theorem tabV_size:tabV.size=256:=by simp [tabV]
theorem Qpn (k:Nat) (h:k<256):tabV[k]?=some (.int .u32 (Crc.row (UInt8.ofNat k)).toNat):=by
 simp [tabV,h]
theorem tabV_one:tabV.toList.all (·.oneCell')=true:=by
 simp [tabV,Value.oneCell']
def TabTo (cs:Array Value) (j:Nat):Prop:=cs.size=256∧∀ k,k<j→cs[k]?=some (.int .u32 (Crc.row (UInt8.ofNat k)).toNat)
theorem TabTo.all {cs:Array Value} (h:TabTo cs 256):cs=tabV:=by
 apply Array.ext_getElem?
 intro k
 by_cases hk:k<256
 ·rw [h.2 k hk,Qpn k hk]
 ·rw [Array.getElem?_eq_none (by rw [h.1]; omega),Array.getElem?_eq_none (by rw [tabV_size]; omega)]
theorem TabTo.next {cs:Array Value} {j:Nat} (h:TabTo cs j) (hj:j<256):TabTo (cs.setIfInBounds j (.int .u32 (Crc.row (UInt8.ofNat j)).toNat)) (j+1):=by
 refine ⟨by simpa using h.1,fun k hk=>?_⟩;rw [Array.getElem?_setIfInBounds]
 by_cases e:j=k
 ·subst e; rw [if_pos rfl,if_pos (by rw [h.1]; exact hj)]
 ·rw [if_neg e]; exact h.2 k Qb
theorem Qqw (w:World):Calls Tryz.prog 160 #[] w fun e w'=>e=.returned (.agg tabV)∧Below w.heap.size w w':=by
 refine Qj (args:=[]) 13 Tryz.func160 Z Z Z ?_;have bw:=Below.refl w.heap.size w
 refine Qa<|Jm inf223 Z (fun g0 w1 hB0 hg0 hb hl0=>?_)
 replace bw:=Ql bw hb;have zz1:=hb.size;clear hb
 refine Wn<|tN<|Qa<|Jm inf223 Z (fun g1 w2 hB1 hg1 hb hl1=>?_)
 replace bw:=Ql bw hb;replace hB0:=hB0.bel hb;have zz2:=hb.size;clear hb
 refine Wn<|tN<|Qe<|Qa<|sm Z Z<|Wn<|tN<|Qp<|JG (fun nw3_ lw3_ w3=>∃ j:Nat,∃ cs:Array Value,nw3_=256-j∧lw3_=([(0,.pointer (some ⟨g0,0,none⟩)),(1,.pointer (some ⟨g1,0,none⟩)),(3,.int .i64 j)]:Env)∧(j≤256)∧(TabTo cs j)∧(Blk w3 g0 223 (List.replicate 256 (.int .u32 0)).toArray)∧(Blk w3 g1 223 cs)∧(Below w.heap.size w w3)) _ ⟨_,⟨0,_,Z,Z,by omega,⟨Xp 256 _,fun k hk=>by omega⟩,hB0,hB1,bw⟩,⟨Z,Z,Z,tvA⟩⟩ ?_
 clear hB0 hB1 bw;rintro nw3_ lw3_ w3 ⟨j,cs,rfl,rfl,hj,hcs,hB0,hB1,bw⟩;have zz3:=bw.size;have hlt_hB0_w3:=hB0.lt;have hlt_hB1_w3:=hB1.lt
 refine Qa<|st (QJ Z Z) Z<|Wn<|tN<|Qe<|Qx Z (fun h4=>?_) (fun h4=>?_)
 ·replace h4:=Qs h4
  skip
  refine Qf<|tN<|Qe<|Qp<|Qa<|sm Z Z<|sa Z Z<|Wn<|tN<|Qw<|sm Z Z<|sm Z Z<|st (QM Z uz3 uz5 ((w8 _).trans (show ((j:Int)%256)=((UInt8.ofNat j).toNat:Int) by rw [UInt8.toNat_ofNat']; omega))) Z ?_
  refine sc _ Tryz.func182 Z Qo Z Z<|(row_any (UInt8.ofNat j) _).mono ?_
  rintro e_ w_ ⟨rfl,rfl⟩
  refine cR<|st (Ki Z Z Tryz.underlying223 siz143 Z Qb) Z<|KL Z Z hB1 siz143 Z (by rw [hcs.1]; omega) (fun w4 bB cC=>?_)
  rw [Nat.zero_add,Nat.mul_one] at bB;replace hB0:=hB0.chg cC (by show ¬_=_; omega);replace hB1:=bB;replace bw:=Ji bw cC Qb;clear bB cC
  refine Wn<|bN<|tN<|Qw<|st (Qn Z Z Qb) Z<|sm Z Z<|Wn<|tN ⟨_,_,?_,⟨j+1,_,Z,Z,by omega,hcs.next Qb,hB0,hB1,bw⟩,⟨Z,Z,Z,tvA⟩⟩
  omega
 ·replace h4:=Qs h4
  obtain rfl:j=256:=by omega
  obtain rfl:=hcs.all
  refine QQ<|tE<|tE<|bH<|tN<|Qa<|st (QE Z hB1 Tryz.underlying223 Z (by rw [tabV_size]; exact siz223)) Z ?_
  refine QY Z Z hB0 (by rw [tabV_size]; exact siz223) (by rw [tabV_size]; exact Xp 256 _) tabV_one (fun w5 bB cC=>?_);replace hB0:=bB;clear bB;replace hB1:=hB1.chg cC Z5;replace bw:=Ji bw cC Qb;have zz5:=cC.size;clear cC
  refine Wn<|tN<|Qg ?_
  exact (rC Z Z hB0 Tryz.underlying223 Z (by rw [tabV_size]; exact siz223) ⟨Z,bw⟩).1
theorem Qjd (x:UInt32):bits .xor .u32 (x.toNat:Int) 4294967295=((x ^^^ Crc.ones).toNat:Int):=Kj x Crc.ones
theorem Qtq (x:UInt32) (b:UInt8):bits .xor .u8 ((x.toUInt8).toNat:Int) (b.toNat:Int)=((x.toUInt8 ^^^ b).toNat:Int):=xor_u8 _ b
theorem Qxh (c:UInt32) (s:List UInt8) (w:World) (hs:s.length≤9223372036854775807):Calls Tryz.prog 121 #[.int .u32 c.toNat,Qv s] w fun e w'=>e=.returned (.int .u32 ((s.foldl Crc.step (c ^^^ Crc.ones)) ^^^ Crc.ones).toNat)∧Below w.heap.size w w':=by
 refine Qj (args:=[.int .u32 c.toNat,Qv s]) 30 Tryz.func121 Z Z Z<|Qt [(0,.int .u32 c.toNat),(1,Qv s)] ?_ ⟨Z,Z,tvA⟩
 have bw:=Below.refl w.heap.size w
 refine Qa<|sa Z Z<|Wn<|tN<|Qa<|sc _ Tryz.func160 Z Qo Z Z (Q3 (Qqw _) fun w1 hb=>?_)
 replace bw:=Ql bw hb;have zz1:=hb.size;clear hb
 refine sm Z Z<|st (Zn Q0 Z Z (Qjd c)) Z ?_
 refine Jm inf223 Z (fun g5 w2 hB5 hg5 hb hl5=>?_);replace bw:=Ql bw hb;have zz2:=hb.size;clear hb;refine QY Z Z hB5 (by rw [tabV_size]; exact siz223) (by rw [tabV_size]; exact Xp 256 _) tabV_one (fun w3 bB cC=>?_);replace hB5:=bB;clear bB;replace bw:=Ji bw cC Qb;have zz3:=cC.size;clear cC
 refine sa Z Z<|Wn<|tN<|Qe<|Qa<|sm Z Z<|st (QP Z Z uz9) Z<|sm Z Z<|Wn<|tN<|Qp<|JG (fun nw4_ lw4_ w4=>∃ j:Nat,nw4_=s.length-j∧lw4_=([(1,Qv s),(5,.pointer (some ⟨g5,0,none⟩)),(6,.int .u32 ((s.take j).foldl Crc.step (c ^^^ Crc.ones)).toNat),(12,.int .i64 s.length),(13,.int .i64 j)]:Env)∧(j≤s.length)∧(Blk w4 g5 223 tabV)∧(Below w.heap.size w w4)) _ ⟨_,⟨0,Z,Z,by omega,hB5,bw⟩,⟨Z,Z,Z,Z,Z,tvA⟩⟩ ?_
 clear hB5 bw;rintro nw4_ lw4_ w4 ⟨j,rfl,rfl,hj,hB5,bw⟩;have zz4:=bw.size;have hlt_hB5_w4:=hB5.lt
 refine Qa<|st (QJ Z Z) Z<|Wn<|tN<|Qe<|Qx Z (fun h14=>?_) (fun h14=>?_)
 ·replace h14:=Qs h14
  obtain ⟨x,hx⟩:∃ x,(s.take j).foldl Crc.step (c ^^^ Crc.ones)=x:=⟨_,rfl⟩
  have htk:(s.take (j+1)).foldl Crc.step (c ^^^ Crc.ones)=Crc.step x (s.getD j 0):=by
   rw [List.take_succ_eq_append_getElem Qb,List.foldl_append,hx]; simp [List.getD,List.getElem?_eq_getElem (show j<s.length by omega)]
  rw [hx]
  refine Qf<|tN<|Qe<|Qp<|Qa<|sm Z Z<|sa Z Z<|Wn<|tN<|Qw<|sm Z Z<|st (Qoo (q:=256) Z Z QF QF Z Z (K5 x 8 Qb)) Z<|sm Z Z<|st (QM Z uz143 uz5 ((w8 _).trans (Uv x))) Z<|sm Z Z<|sm Z Z<|st (Ys Z Z uz9 Z Qb) Z<|st (Zn Q0 Z Z (Qtq x _)) Z ?_
  refine st (Ki (j:=(x.toUInt8 ^^^ s.getD j 0).toNat) Z Z Tryz.underlying223 siz143 Z (UInt8.toNat_lt _)) Z<|st (Z0 Z hB5 uz143 Z (by rw [Nat.zero_add,Nat.mul_one,Qpn _ (UInt8.toNat_lt _),UInt8.ofNat_toNat])) Z ?_
  refine st (Zn Q0 Z Z (Kj _ _)) Z ?_
  refine sa Z Z<|Wn<|bN<|tN<|Qw<|st (Qn Z Z Qb) Z<|sm Z Z<|Wn<|tN ⟨_,_,?_,⟨j+1,Z,Z,by omega,hB5,bw⟩,⟨Z,Z,by rw [htk]; rfl,Z,Z,tvA⟩⟩
  omega
 ·replace h14:=Qs h14
  refine QQ<|tE<|tE<|bH<|tN<|Qa<|sm Z Z<|st (Zn Q0 Z Z (Qjd _)) Z ?_
  refine sa Z Z<|Wn<|tN<|Qg<|(rT Z Z ⟨?_,bw⟩).1
  rw [List.take_of_length_le Qb]
theorem Qbp (s:List UInt8) (w:World) (hs:s.length≤9223372036854775807):Calls Tryz.prog 78 #[Qv s] w fun e w'=>e=.returned (.int .u32 (Crc.crc s).toNat)∧Below w.heap.size w w':=by
 refine Qj (args:=[Qv s]) 5 fz78 Z Z Z<|Qt [(0,Qv s)] ?_ ⟨Z,tvA⟩
 have bw:=Below.refl w.heap.size w
 refine Qa<|sa Z Z<|Wn<|tN<|Qa<|sm Z Z<|sc _ Tryz.func121 Z Qo Z Z (Q3 (Qxh 0 s _ hs) fun w1 hb=>?_)
 replace bw:=Ql bw hb;have zz1:=hb.size;clear hb
 refine sa Z Z<|Wn<|tN<|Qg ?_
 exact (rT Z Z ⟨Z,bw⟩).1
theorem KV (s:List UInt8) (w:World) (hs:s.length≤9223372036854775807):Calls Tryz.prog 129 #[Qv s] w fun e w'=>e=.returned (.int .u32 (Crc.crc s).toNat)∧w=w':=by
 refine Qj (args:=[Qv s]) 33 fz129 Z Z Z<|Qt [(0,Qv s)] ?_ ⟨Z,tvA⟩
 refine Qa<|sa Z Z<|Wn<|tN<|Qa<|sa Z Z<|Wn<|tN<|Qe<|Qa<|sa Z Z<|Wn<|tN<|Qp<|JG (fun nw1_ lw1_ w1=>∃ j:Nat,nw1_=s.length-j∧lw1_=([(0,Qv s),(3,.int .u32 ((s.take j).foldl Crc.stepB Crc.ones).toNat),(4,.int .i64 j)]:Env)∧(j≤s.length)∧(w=w1)) _ ⟨_,⟨0,Z,Z,by omega,Z⟩,⟨Z,Z,Z,tvA⟩⟩ ?_
 rintro nw1_ lw1_ w1 ⟨j,rfl,rfl,hj,hw⟩
 refine Qe<|Qa<|sm Z Z<|sm Z Z<|st (QP Z Z uz9) Z<|st (QJ Z Z) Z<|Wn<|tN<|Qx Z (fun h10=>?_) (fun h10=>?_)
 ·replace h10:=Qs h10
  obtain ⟨x,hx⟩:∃ x,(s.take j).foldl Crc.stepB Crc.ones=x:=⟨_,rfl⟩
  have htk:(s.take (j+1)).foldl Crc.stepB Crc.ones=Crc.stepB x (s.getD j 0):=by
   rw [List.take_succ_eq_append_getElem Qb,List.foldl_append,hx]; simp [List.getD,List.getElem?_eq_getElem (show j<s.length by omega)]
  rw [hx]
  refine Qf<|tN<|Qe<|Qp<|Qa<|sm Z Z<|sm Z Z<|sm Z Z<|st (Ys Z Z uz9 Z Qb) Z<|st (QM Z uz5 uz143 ((w32 _).trans (HG _))) Z<|st (Zn Q0 Z Z (Kj _ _)) Z ?_
  refine sa Z Z<|Wn<|tN<|Qa<|sa Z Z<|Wn<|tN<|Qp<|JG (fun nw2_ lw2_ w2=>∃ i:Nat,nw2_=8-i∧lw2_=([(0,Qv s),(3,.int .u32 (halfN i (x ^^^ (s.getD j 0).toUInt32)).toNat),(4,.int .i64 j),(5,.int .i64 i)]:Env)∧(i≤8)∧(w=w2)) _ ⟨_,⟨0,Z,Z,by omega,hw⟩,⟨Z,Z,Z,Z,tvA⟩⟩ ?_
  clear hw;rintro nw2_ lw2_ w2 ⟨i,rfl,rfl,hi,hw⟩
  refine Qe<|Qa<|sm Z Z<|st (QJ Z Z) Z<|Wn<|tN<|Qx Z (fun h20=>?_) (fun h20=>?_)
  ·replace h20:=Qs h20
   obtain ⟨y,hyy⟩:∃ y,halfN i (x ^^^ (s.getD j 0).toUInt32)=y:=⟨_,rfl⟩
   have hy0:halfN (i+1) (x ^^^ (s.getD j 0).toUInt32)=Crc.half y:=by rw [← hyy]; rfl
   rw [hyy]
   refine Qf<|tN<|Qe<|Qp<|Qa<|sm Z Z<|st (Yc Z Z Qb Qb) Z<|sa Z Z<|Wn<|tN<|Qa<|sm Z Z<|st (Qqe Z Z QF (show IntKind.u32.wrap (Int.tdiv (y.toNat:Int) 2)=((y >>> 1).toNat:Int) by rw [Int.tdiv_eq_ediv_of_nonneg Qb,shr1i y]; exact wrap_u32 _)) Z ?_
   refine sa Z Z<|Wn<|tN<|Qa<|sm Z Z<|st (QL Z Z) Z<|Wn<|tN<|Qx Z (fun h28=>?_) (fun h28=>?_)
   ·replace h28:=Qs h28
    have hy:halfN (i+1) (x ^^^ (s.getD j 0).toUInt32)=(y >>> 1) ^^^ Crc.poly:=by rw [hy0]; unfold Crc.half; rw [if_pos ((Crc.and1_nat y).2 Qb)]
    refine Qw<|sm Z Z<|st (Zn Q0 Z Z (Kj _ Crc.poly)) Z ?_
    refine sa Z Z<|Wn<|bN<|tN<|Qw<|sm Z Z<|st (Qn Z Z Qb) Z<|sa Z Z<|Wn<|tN ⟨_,_,?_,⟨i+1,Z,Z,by omega,hw⟩,⟨Z,by rw [hy]; rfl,Z,Z,tvA⟩⟩
    omega
   ·replace h28:=Qs h28
    have hy:halfN (i+1) (x ^^^ (s.getD j 0).toUInt32)=y >>> 1:=by rw [hy0]; unfold Crc.half; rw [if_neg (fun e=>by have:=(Crc.and1_nat y).1 e; omega)]
    refine Qf<|bN<|tN<|Qw<|sm Z Z<|st (Qn Z Z Qb) Z<|sa Z Z<|Wn<|tN ⟨_,_,?_,⟨i+1,Z,Z,by omega,hw⟩,⟨Z,by rw [hy]; rfl,Z,Z,tvA⟩⟩
    omega
  ·replace h20:=Qs h20
   obtain rfl:i=8:=by omega
   refine QQ<|tE<|tE<|bH<|bN<|tN<|Qw<|sm Z Z<|st (Qn Z Z Qb) Z<|sa Z Z<|Wn<|tN ⟨_,_,?_,⟨j+1,Z,Z,by omega,hw⟩,⟨Z,by rw [htk]; rfl,Z,tvA⟩⟩
   omega
 ·replace h10:=Qs h10
  refine QQ<|tE<|tE<|bH<|tN<|Qa<|sm Z Z<|st (V5 Z Z (show IntKind.u32.wrap (4294967295-(((s.take j).foldl Crc.stepB Crc.ones).toNat:Int))=((((s.take j).foldl Crc.stepB Crc.ones) ^^^ Crc.ones).toNat:Int) by rw [Crc.ones_sub]; exact wrap_u32 _)) Z ?_
  refine sa Z Z<|Wn<|tN<|Qg<|(rT Z Z ⟨?_,hw⟩).1
  rw [List.take_of_length_le Qb,Crc.crcB]; rfl
end
section
open Go.RowKit
section
variable {α:Type} {f:α→List Value} {q:TypeId} {k:Nat}
theorem Reads.rec_ {w:World} {g o c:Nat} {l:List α} (h:Reads w k (.slice (some ⟨g,o,none⟩) l.length c) l.length (l.flatMap f)) (hk:∀ a∈l,(f a).length=k) {j:Nat} {x:α} (hx:l[j]?=some x):w.rangeAt g (o+j*k) (f x):=by
 have hj:=(List.getElem?_eq_some_iff.1 hx).1
 have:=h.range j hj
 rwa [VT f k l j x hk hx] at this
end
end
end Go.Proofs.YtgiccohjijhfkaaGreatDoor
