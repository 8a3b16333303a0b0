/- Part 2. -/
import Derived.Test.YtgiccohjijhfkaaGreatDoorProg
import Derived.Laws.BitsAllLaws
import Derived.Laws.Bits64
import Derived.Lib.Bytealg
import Derived.Sort.Walk0
import Derived.Test.YtgiccohjijhfkaaGreatDoorPackPlaysP1
set_option maxRecDepth 100000
set_option maxHeartbeats 4000000
namespace Go.Proofs.YtgiccohjijhfkaaGreatDoor
section
abbrev fz73 := @Tryz.func73
abbrev uz9 := @Tryz.underlying9
abbrev fz72 := @Tryz.func72
abbrev uz4 := @Tryz.underlying4
abbrev uz3 := @Tryz.underlying3
abbrev fz58 := @Tryz.func58
abbrev uz48 := @Tryz.underlying48
abbrev uz114 := @Tryz.underlying114
abbrev uz115 := @Tryz.underlying115
abbrev fz4 := @Tryz.func4
abbrev fz30 := @Tryz.func30
abbrev uz5 := @Tryz.underlying5
abbrev uz143 := @Tryz.underlying143
abbrev fz78 := @Tryz.func78
abbrev fz129 := @Tryz.func129
abbrev fz26 := @Tryz.func26
abbrev fz93 := @Tryz.func93
abbrev fz25 := @Tryz.func25
abbrev fz29 := @Tryz.func29
abbrev fz109 := @Tryz.func109
abbrev uz42 := @Tryz.underlying42
abbrev fz140 := @Tryz.func140
abbrev uz24 := @Tryz.underlying24
abbrev fz172 := @Tryz.func172
abbrev fz174 := @Tryz.func174
abbrev uz151 := @Tryz.underlying151
abbrev uz145 := @Tryz.underlying145
abbrev fz128 := @Tryz.func128
abbrev fz105 := @Tryz.func105
abbrev fz117 := @Tryz.func117
abbrev fz27 := @Tryz.func27
abbrev fz86 := @Tryz.func86
abbrev uz57 := @Tryz.underlying57
abbrev uz77 := @Tryz.underlying77
abbrev fz67 := @Tryz.func67
abbrev fz42 := @Tryz.func42
abbrev fz150 := @Tryz.func150
abbrev uz59 := @Tryz.underlying59
abbrev uz210 := @Tryz.underlying210
abbrev uz101 := @Tryz.underlying101
abbrev fz152 := @Tryz.func152
abbrev uz95 := @Tryz.underlying95
abbrev uz35 := @Tryz.underlying35
abbrev fz40 := @Tryz.func40
abbrev fz132 := @Tryz.func132
abbrev fz14 := @Tryz.func14
abbrev fz71 := @Tryz.func71
abbrev fz28 := @Tryz.func28
abbrev fz13 := @Tryz.func13
abbrev fz24 := @Tryz.func24
abbrev fz176 := @Tryz.func176
abbrev fz21 := @Tryz.func21
abbrev fz70 := @Tryz.func70
abbrev fz57 := @Tryz.func57
abbrev fz43 := @Tryz.func43
abbrev uz39 := @Tryz.underlying39
abbrev uz76 := @Tryz.underlying76
abbrev uz75 := @Tryz.underlying75
abbrev fz41 := @Tryz.func41
abbrev fz12 := @Tryz.func12
abbrev uz23 := @Tryz.underlying23
abbrev fz52 := @Tryz.func52
abbrev fz124 := @Tryz.func124
abbrev fz49 := @Tryz.func49
abbrev fz23 := @Tryz.func23
abbrev uz67 := @Tryz.underlying67
abbrev uz119 := @Tryz.underlying119
abbrev fz60 := @Tryz.func60
abbrev uz51 := @Tryz.underlying51
abbrev uz69 := @Tryz.underlying69
abbrev fz114 := @Tryz.func114
abbrev fz115 := @Tryz.func115
abbrev fz5 := @Tryz.func5
abbrev fz83 := @Tryz.func83
abbrev fz69 := @Tryz.func69
abbrev fz111 := @Tryz.func111
abbrev fz100 := @Tryz.func100
abbrev fz84 := @Tryz.func84
abbrev fz94 := @Tryz.func94
abbrev fz51 := @Tryz.func51
abbrev uz37 := @Tryz.underlying37
abbrev fz63 := @Tryz.func63
abbrev fz38 := @Tryz.func38
abbrev fz7 := @Tryz.func7
abbrev fz39 := @Tryz.func39
abbrev uz27 := @Tryz.underlying27
abbrev uz33 := @Tryz.underlying33
abbrev uz44 := @Tryz.underlying44
abbrev uz22 := @Tryz.underlying22
theorem siz3:(Tryz.prog.info? 3).map (·.size)=some 1:=by kernel_rfl
theorem siz4:(Tryz.prog.info? 4).map (·.size)=some 1:=by kernel_rfl
theorem inf5:(Tryz.prog.info? 5).map (fun i=>(i.zero,i.size,i.bytes))=some (some (.int .u8 0),1,1):=by kernel_rfl
theorem siz5:(Tryz.prog.info? 5).map (·.size)=some 1:=by kernel_rfl
theorem siz9:(Tryz.prog.info? 9).map (·.size)=some 1:=by kernel_rfl
theorem siz24:(Tryz.prog.info? 24).map (·.size)=some 1:=by kernel_rfl
theorem siz33:(Tryz.prog.info? 33).map (·.size)=some 1:=by kernel_rfl
theorem siz34:(Tryz.prog.info? 34).map (·.size)=some 1:=by kernel_rfl
theorem siz35:(Tryz.prog.info? 35).map (·.size)=some 1:=by kernel_rfl
theorem inf37:(Tryz.prog.info? 37).map (fun i=>(i.zero,i.size,i.bytes))=some (some (.agg #[.bool false,.int .i64 0,.slice none 0 0,.bool false]),4,48):=by kernel_rfl
theorem siz37:(Tryz.prog.info? 37).map (·.size)=some 4:=by kernel_rfl
abbrev Kb (t i k g o:Nat) (w:World):Prop:=(Instr.fieldAt t (.pointer (some ⟨g,o,none⟩)) i).run Tryz.prog w=.ok (.pointer (some ⟨g,o+k,none⟩)) w
theorem Qdo {w:World} (g o:Nat):Kb 37 0 0 g o w:=by show _=_; kernel_rfl
theorem Qdn {w:World} (g o:Nat):Kb 37 1 1 g o w:=by show _=_; kernel_rfl
theorem Y1 {w:World} (g o:Nat):Kb 37 2 2 g o w:=by show _=_; kernel_rfl
theorem Qob {w:World} (g o:Nat):Kb 37 3 3 g o w:=by show _=_; kernel_rfl
theorem inf39:(Tryz.prog.info? 39).map (fun i=>(i.zero,i.size,i.bytes))=some (some (.agg #[.slice none 0 0,.int .i64 0,.bool false]),3,40):=by kernel_rfl
theorem siz39:(Tryz.prog.info? 39).map (·.size)=some 3:=by kernel_rfl
theorem KH {w:World} (g o:Nat):Kb 39 0 0 g o w:=by show _=_; kernel_rfl
theorem XD {w:World} (g o:Nat):Kb 39 1 1 g o w:=by show _=_; kernel_rfl
theorem Qhs {w:World} (g o:Nat):Kb 39 2 2 g o w:=by show _=_; kernel_rfl
theorem XC {w:World} (g o:Nat):Kb 41 0 0 g o w:=by show _=_; kernel_rfl
theorem Yr {w:World} (g o:Nat):Kb 41 1 1 g o w:=by show _=_; kernel_rfl
theorem Qoa {w:World} (g o:Nat):Kb 41 2 2 g o w:=by show _=_; kernel_rfl
theorem ZO {w:World} (g o:Nat):Kb 41 3 3 g o w:=by show _=_; kernel_rfl
theorem KG {w:World} (g o:Nat):Kb 41 4 4 g o w:=by show _=_; kernel_rfl
theorem Qnz {w:World} (g o:Nat):Kb 41 5 8 g o w:=by show _=_; kernel_rfl
theorem Qny {w:World} (g o:Nat):Kb 41 6 11 g o w:=by show _=_; kernel_rfl
theorem Qdm {w:World} (g o:Nat):Kb 41 7 12 g o w:=by show _=_; kernel_rfl
theorem inf44:(Tryz.prog.info? 44).map (fun i=>(i.zero,i.size,i.bytes))=some (some (.agg #[.int .i64 0,.int .i64 0,.int .i64 0,Qv [],.slice none 0 0]),5,64):=by kernel_rfl
theorem siz44:(Tryz.prog.info? 44).map (·.size)=some 5:=by kernel_rfl
theorem Vx {w:World} (g o:Nat):Kb 44 0 0 g o w:=by show _=_; kernel_rfl
theorem J4 {w:World} (g o:Nat):Kb 44 1 1 g o w:=by show _=_; kernel_rfl
theorem Qdl {w:World} (g o:Nat):Kb 44 2 2 g o w:=by show _=_; kernel_rfl
theorem Vw {w:World} (g o:Nat):Kb 44 3 3 g o w:=by show _=_; kernel_rfl
theorem Qnx {w:World} (g o:Nat):Kb 44 4 4 g o w:=by show _=_; kernel_rfl
theorem KF {w:World} (g o:Nat):Kb 50 0 0 g o w:=by show _=_; kernel_rfl
theorem fa50_1 {w:World} (g o:Nat):Kb 50 1 1 g o w:=by show _=_; kernel_rfl
theorem K2 {w:World} (g o:Nat):Kb 50 2 2 g o w:=by show _=_; kernel_rfl
theorem Qvn {w:World} (g o:Nat):Kb 50 3 3 g o w:=by show _=_; kernel_rfl
theorem Qdk {w:World} (g o:Nat):Kb 50 4 4 g o w:=by show _=_; kernel_rfl
theorem Qhr {w:World} (g o:Nat):Kb 50 5 5 g o w:=by show _=_; kernel_rfl
theorem siz51:(Tryz.prog.info? 51).map (·.size)=some 1:=by kernel_rfl
theorem Jj {w:World} (g o:Nat):Kb 53 0 0 g o w:=by show _=_; kernel_rfl
theorem fa53_1 {w:World} (g o:Nat):Kb 53 1 1 g o w:=by show _=_; kernel_rfl
theorem Qvm {w:World} (g o:Nat):Kb 53 2 2 g o w:=by show _=_; kernel_rfl
theorem Qhq {w:World} (g o:Nat):Kb 53 3 3 g o w:=by show _=_; kernel_rfl
theorem Qhp {w:World} (g o:Nat):Kb 53 4 4 g o w:=by show _=_; kernel_rfl
theorem inf57:(Tryz.prog.info? 57).map (fun i=>(i.zero,i.size,i.bytes))=some (some (.agg (List.replicate 32 (.int .u8 0):List Value).toArray),32,32):=by kernel_rfl
theorem siz57:(Tryz.prog.info? 57).map (·.size)=some 32:=by kernel_rfl
theorem inf59:(Tryz.prog.info? 59).map (fun i=>(i.zero,i.size,i.bytes))=some (some (.agg (List.replicate 32 (.int .u8 0)++[.int .i64 0,.int .i64 0,.int .i64 0]:List Value).toArray),35,56):=by kernel_rfl
theorem siz59:(Tryz.prog.info? 59).map (·.size)=some 35:=by kernel_rfl
theorem Y0 {w:World} (g o:Nat):Kb 59 0 0 g o w:=by show _=_; kernel_rfl
theorem Qho {w:World} (g o:Nat):Kb 59 1 32 g o w:=by show _=_; kernel_rfl
theorem H4 {w:World} (g o:Nat):Kb 59 2 33 g o w:=by show _=_; kernel_rfl
theorem Vv {w:World} (g o:Nat):Kb 59 3 34 g o w:=by show _=_; kernel_rfl
theorem siz67:(Tryz.prog.info? 67).map (·.size)=some 1:=by kernel_rfl
theorem inf69:(Tryz.prog.info? 69).map (fun i=>(i.zero,i.size,i.bytes))=some (some (.agg #[Qv [],Qv [],.slice none 0 0]),3,56):=by kernel_rfl
theorem siz69:(Tryz.prog.info? 69).map (·.size)=some 3:=by kernel_rfl
theorem Qdj {w:World} (g o:Nat):Kb 69 0 0 g o w:=by show _=_; kernel_rfl
theorem Vu {w:World} (g o:Nat):Kb 69 1 1 g o w:=by show _=_; kernel_rfl
theorem KE {w:World} (g o:Nat):Kb 69 2 2 g o w:=by show _=_; kernel_rfl
theorem inf75:(Tryz.prog.info? 75).map (fun i=>(i.zero,i.size,i.bytes))=some (some (.pointer none),1,8):=by kernel_rfl
theorem siz75:(Tryz.prog.info? 75).map (·.size)=some 1:=by kernel_rfl
theorem siz77:(Tryz.prog.info? 77).map (·.size)=some 1:=by kernel_rfl
theorem XB {w:World} (g o:Nat):Kb 79 0 0 g o w:=by show _=_; kernel_rfl
theorem Qhn {w:World} (g o:Nat):Kb 79 1 1 g o w:=by show _=_; kernel_rfl
theorem H3 {w:World} (g o:Nat):Kb 79 2 2 g o w:=by show _=_; kernel_rfl
theorem Qnw {w:World} (g o:Nat):Kb 79 3 3 g o w:=by show _=_; kernel_rfl
theorem Qhm {w:World} (g o:Nat):Kb 81 0 0 g o w:=by show _=_; kernel_rfl
theorem Qdi {w:World} (g o:Nat):Kb 81 1 1 g o w:=by show _=_; kernel_rfl
theorem H2 {w:World} (g o:Nat):Kb 81 2 2 g o w:=by show _=_; kernel_rfl
theorem Qnv {w:World} (g o:Nat):Kb 81 3 3 g o w:=by show _=_; kernel_rfl
theorem inf95:(Tryz.prog.info? 95).map (fun i=>(i.zero,i.size,i.bytes))=some (some (.agg #[Qv [],.int .i64 0,.int .i64 0,.int .i64 0]),4,40):=by kernel_rfl
theorem siz95:(Tryz.prog.info? 95).map (·.size)=some 4:=by kernel_rfl
theorem K1 {w:World} (g o:Nat):Kb 95 0 0 g o w:=by show _=_; kernel_rfl
theorem Qnu {w:World} (g o:Nat):Kb 95 1 1 g o w:=by show _=_; kernel_rfl
theorem Qdh {w:World} (g o:Nat):Kb 95 2 2 g o w:=by show _=_; kernel_rfl
theorem Qhl {w:World} (g o:Nat):Kb 95 3 3 g o w:=by show _=_; kernel_rfl
theorem inf101:(Tryz.prog.info? 101).map (fun i=>(i.zero,i.size,i.bytes))=some (some (.agg #[.slice none 0 0]),1,24):=by kernel_rfl
theorem siz101:(Tryz.prog.info? 101).map (·.size)=some 1:=by kernel_rfl
theorem KI {w:World} (g o:Nat):Kb 101 0 0 g o w:=by show _=_; kernel_rfl
theorem siz114:(Tryz.prog.info? 114).map (·.size)=some 1:=by kernel_rfl
theorem siz115:(Tryz.prog.info? 115).map (·.size)=some 1:=by kernel_rfl
theorem VV {w:World} (g o:Nat):Kb 117 0 0 g o w:=by show _=_; kernel_rfl
theorem Zr {w:World} (g o:Nat):Kb 117 1 1 g o w:=by show _=_; kernel_rfl
theorem XX {w:World} (g o:Nat):Kb 117 2 2 g o w:=by show _=_; kernel_rfl
theorem inf119:(Tryz.prog.info? 119).map (fun i=>(i.zero,i.size,i.bytes))=some (some (.agg #[.int .i64 0,Qv []]),2,24):=by kernel_rfl
theorem siz119:(Tryz.prog.info? 119).map (·.size)=some 2:=by kernel_rfl
theorem Qhy {w:World} (g o:Nat):Kb 119 0 0 g o w:=by show _=_; kernel_rfl
theorem J3 {w:World} (g o:Nat):Kb 119 1 1 g o w:=by show _=_; kernel_rfl
theorem inf140:(Tryz.prog.info? 140).map (fun i=>(i.zero,i.size,i.bytes))=some (some (.agg #[.slice none 0 0]),1,24):=by kernel_rfl
theorem Qhx {w:World} (g o:Nat):Kb 140 0 0 g o w:=by show _=_; kernel_rfl
theorem siz143:(Tryz.prog.info? 143).map (·.size)=some 1:=by kernel_rfl
theorem inf163:(Tryz.prog.info? 163).map (fun i=>(i.zero,i.size,i.bytes))=some (some (.agg #[.int .i64 0,Qv []]),2,24):=by kernel_rfl
theorem siz163:(Tryz.prog.info? 163).map (·.size)=some 2:=by kernel_rfl
theorem fa163_0 {w:World} (g o:Nat):Kb 163 0 0 g o w:=by show _=_; kernel_rfl
theorem Qhw {w:World} (g o:Nat):Kb 163 1 1 g o w:=by show _=_; kernel_rfl
theorem fa169_0 {w:World} (g o:Nat):Kb 169 0 0 g o w:=by show _=_; kernel_rfl
theorem fa169_1 {w:World} (g o:Nat):Kb 169 1 1 g o w:=by show _=_; kernel_rfl
theorem VU {w:World} (g o:Nat):Kb 169 2 2 g o w:=by show _=_; kernel_rfl
theorem inf200:(Tryz.prog.info? 200).map (fun i=>(i.zero,i.size,i.bytes))=some (some (.agg #[.int .u8 0,Qv [],.int .i64 0,.int .i64 0]),4,40):=by kernel_rfl
theorem siz200:(Tryz.prog.info? 200).map (·.size)=some 4:=by kernel_rfl
theorem Qhv {w:World} (g o:Nat):Kb 200 0 0 g o w:=by show _=_; kernel_rfl
theorem Qhu {w:World} (g o:Nat):Kb 200 1 1 g o w:=by show _=_; kernel_rfl
theorem Qpy {w:World} (g o:Nat):Kb 200 2 2 g o w:=by show _=_; kernel_rfl
theorem Qht {w:World} (g o:Nat):Kb 200 3 3 g o w:=by show _=_; kernel_rfl
theorem inf210:(Tryz.prog.info? 210).map (fun i=>(i.zero,i.size,i.bytes))=some (some (.agg (List.replicate 256 (.int .i64 0):List Value).toArray),256,2048):=by kernel_rfl
theorem siz210:(Tryz.prog.info? 210).map (·.size)=some 256:=by kernel_rfl
theorem inf223:(Tryz.prog.info? 223).map (fun i=>(i.zero,i.size,i.bytes))=some (some (.agg (List.replicate 256 (.int .u32 0):List Value).toArray),256,1024):=by kernel_rfl
theorem siz223:(Tryz.prog.info? 223).map (·.size)=some 256:=by kernel_rfl
theorem Qbl {w:World} (g o:Nat):Kb 235 0 0 g o w:=by show _=_; kernel_rfl
theorem Ya {w:World} (g o:Nat):Kb 235 1 1 g o w:=by show _=_; kernel_rfl
theorem K9 {w:World} (g o:Nat):Kb 235 2 2 g o w:=by show _=_; kernel_rfl
end
section
open Go.RowKit
def WO (P:Program) (N:Nat) (ds:List Deferred) (os:List Oper) (Q:Post) (S:World→Prop) (is:List Nat) (bs:List Bool) (l:Env) (w:World):Prop :=
  ∀ a,Rep N ds l a→J8 P os.toArray (X3 N ds Q) S (ZG os is) bs a w
section
variable {P:Program} {N:Nat} {ds:List Deferred} {Q:Post} {S:World→Prop} {os:List Oper} {is:List Nat} {bs:List Bool} {l r:Env} {w w':World} {op:Op} {ty:TypeId} {pos:String} {aft:Array Edge} {d i j g:Nat} {v:Value} {b:Bool}
theorem W_dr {id:Nat} (S:World→Prop) (is:List Nat) (bs:List Bool) (hm:P.follows .mixedOrders=true) (hok:(Region.noSelect os.toArray && Kz os.toArray is bs (Array.replicate os.toArray.size false) && (is.length == os.length))=true)
  (hQ:∀ c l w,Q (.panic c) l w→Q (.panic c) [] w) (hS:S w.drew) (h:WO P N ds os Q S is bs l w.drew):W P N ds Q (.region id os.toArray true) l w:=fun a ha =>
 Zt S is bs hm hok (fun c a d v w hq=>by
  obtain ⟨l',hr,hq⟩:=hq;refine ⟨[],⟨?_,?_,fun t v h=>by cases h⟩,hQ c l' w hq⟩
  ·have:=hr.size
   cases d <;> simpa [Act.put] using this
  ·have:=hr.defers
   cases d <;> simpa [Act.put] using this) hS (h a ha)
def Yi (next:Env→World→Prop):Post
  | .normal,l,w=>next l w
  | _,_,_=>False
theorem nN {next:Env→World→Prop} (h:next l w):Yi next .normal l w:=h
theorem Qan {id:Nat} (S:World→Prop) (is:List Nat) (bs:List Bool) (hm:P.follows .mixedOrders=true) (hok:(Region.noSelect os.toArray && Kz os.toArray is bs (Array.replicate os.toArray.size false) && (is.length == os.length))=true)
  (hS:S w.drew) (h:WO P N ds os (Yi (fun l w=>Q .normal l w)) S is bs l w.drew):W P N ds Q (.region id os.toArray true) l w:=fun a ha =>
 Code.wp_mono (fun e a w hq=>by
  obtain ⟨l',hr,hq⟩:=hq;refine ⟨l',hr,?_⟩
  cases e with
  | normal=>exact hq
  | _=>exact hq.elim) (W_dr (Q:=Yi (fun l w=>Q .normal l w)) S is bs hm hok (fun _ _ _ h=>h) hS h a ha)
theorem QS {id:Nat} {y:Code} (S:World→Prop) (is:List Nat) (bs:List Bool) (hm:P.follows .mixedOrders=true) (hok:(Region.noSelect os.toArray && Kz os.toArray is bs (Array.replicate os.toArray.size false) && (is.length == os.length))=true)
  (hS:S w.drew) (h:WO P N ds os (Yi (W P N ds Q y)) S is bs l w.drew):W P N ds Q (.seq (.region id os.toArray true) y) l w :=
 Qe (Qan S is bs hm hok hS h)
theorem oN (h:Q .normal l w):WO P N ds os Q S [] [] l w:=fun _ ha=>Z3 ⟨_,ha,h⟩
theorem YA {o:Oper} (ho:os[i]?=some o):ZG os (i::is)=o::ZG os is:=by
 show os.getD i default::ZG os is=_
 rw [List.getD_eq_getElem?_getD,ho]
 rfl
theorem oY (ho:os[i]?=some ⟨some d,op,ty,pos,aft,none⟩) (hx:∀ w,S w→X P l op ty w v w) (hd:Nat.blt d N=true) (h:WO P N ds os Q S is bs ((d,v)::l) w):WO P N ds os Q S (i::is) (true::bs) l w:=fun a ha=>by
 rw [YA ho]
 exact Qh v Z (fun w hw=>hx w hw _ ha.knows)<|h _<|ha.put hd v
theorem Qjb {ops:Array Oper} {a:Act} (ha:Rep N ds l a) (hj:(ops[j]?).bind (·.dst)=some g) (hg:lk l g=some (.bool b)) (hN:Nat.blt g N=true):yielded ops a.tmps j=some b:=by
 have hs:g<a.tmps.size:=by rw [ha.size]; exact of_decide_eq_true (by simpa [Nat.blt_eq] using hN)
 have hv:=ha.val g _ hg;unfold yielded;rw [hj];simp only [Option.bind_some];rw [Array.getElem?_eq_getElem hs];simp only [Array.getD_eq_getD_getElem?,Array.getElem?_eq_getElem hs,Option.getD_some] at hv;rw [hv]
theorem Q4 (ho:os[i]?=some ⟨some d,op,ty,pos,aft,some (j,b)⟩) (hj:(os.toArray[j]?).bind (·.dst)=some g) (hg:lk l g=some (.bool b)) (hN:Nat.blt g N=true) (hx:∀ w,S w→X P l op ty w v w) (hd:Nat.blt d N=true) (h:WO P N ds os Q S is bs ((d,v)::l) w):WO P N ds os Q S (i::is) (true::bs) l w:=fun a ha=>by
 rw [YA ho]
 exact Qh v (by simp [Region.wanted,Qjb ha hj hg hN]) (fun w hw=>hx w hw _ ha.knows)<|h _<|ha.put hd v
theorem JA {m:Bool} (ho:os[i]?=some ⟨some d,op,ty,pos,aft,some (j,b)⟩) (hj:(os.toArray[j]?).bind (·.dst)=some g) (hg:lk l g=some (.bool !b)) (hN:Nat.blt g N=true) (hS:S w) (hd:Nat.blt d N=true) (h:WO P N ds os Q S is bs ((d,undef)::l) w):WO P N ds os Q S (i::is) (m::bs) l w:=fun a ha=>by
 rw [YA ho]
 have hw:Region.wanted ⟨some d,op,ty,pos,aft,some (j,b)⟩ (yielded os.toArray a.tmps)=false:=by simp [Region.wanted,Qjb ha hj hg hN]
 cases m with
 | true=>exact Qtl hw (h _ (ha.put hd undef))
 | false=>exact Qbs hw hS (h _ (ha.put hd undef))
theorem oL {o:Oper} (ho:os[i]?=some o) (h:∀ Q',(∀ l w,S w→WO P N ds os Q S is bs l w→Q' .normal l w)→(∀ c l w,Q (.panic c) l w→Q' (.panic c) l w)→WL P N ds os.toArray Q' [o] l w):WO P N ds os Q S (i::is) (false::bs) l w:=fun a ha=>by
 rw [YA ho]
 have:=h (fun e l w=>match e with|.normal=>S w∧WO P N ds os Q S is bs l w|.panic c=>Q (.panic c) l w|_=>False) (fun l w hs h=>⟨hs,h⟩) (fun c l w h=>h) a ha
 unfold wpList at this;unfold J8
 split
 ·rename_i hw
  rw [if_pos hw] at this
  rcases this with this|⟨_,a0,w0,hq⟩
  ·unfold Oper.wp at this ⊢
   revert this
   generalize (execOp a.eval o).run P w=res
   intro this;unfold Oper.upon at this ⊢
   split at this
   ·simp only [wpList] at this; obtain ⟨l',hr,hs,h⟩:=this; exact ⟨hs,h _ hr⟩
   ·simp only [wpList] at this; obtain ⟨l',hr,hs,h⟩:=this; exact ⟨hs,h _ hr⟩
   ·simp only [wpList] at this; obtain ⟨l',hr,hs,h⟩:=this; exact ⟨hs,h _ hr⟩
   ·refine Calls.mono this fun e w' h=>?_
    cases e with
    | returned v=>simp only [wpList] at h; obtain ⟨l',hr,hs,h⟩:=h; exact ⟨hs,h _ hr⟩
    | panicked c=>exact h
    | outgrown=>obtain ⟨a0,w0,l0,h1,h2⟩:=h; exact h2.elim
   ·refine Rows.mono this fun v w' h=>?_
    simp only [wpList] at h; obtain ⟨l',hr,hs,h⟩:=h; exact ⟨hs,h _ hr⟩
   ·exact this
   ·exact this.elim
  ·obtain ⟨l0,_,h2⟩:=hq; exact h2.elim
 ·rename_i hw
  rw [if_neg hw] at this;simp only [wpList] at this;obtain ⟨l',hr,hs,h⟩:=this;exact ⟨hs,h _ hr⟩
end
end
section
def Kf (n:Int):UInt8:=UInt8.ofNat (n%256).toNat
theorem ZD (n:Int):((Kf n).toNat:Int)=n%256:=by
 unfold Kf;rw [UInt8.toNat_ofNat_of_lt' (by have:=Int.emod_lt_of_pos n (show (0:Int)<256 by decide); have:=Int.emod_nonneg n (show (256:Int)≠0 by decide); simp [UInt8.size]; omega)]
 have:=Int.emod_nonneg n (show (256:Int)≠0 by decide)
 omega
theorem wb (n:Int):IntKind.u8.wrap n=((Kf n).toNat:Int):=by rw [w8,ZD]
def JR (n:Int):List UInt8:=[Kf n,Kf (n / 256),Kf (n / 65536),Kf (n / 16777216)]
theorem Q9 (n:Int):(JR n).length=4:=rfl
def HN (a b c d:UInt8):Nat:=a.toNat+256*b.toNat+65536*c.toNat+16777216*d.toNat
theorem num4_lt (a b c d:UInt8):HN a b c d<4294967296:=by
 have:=a.toNat_lt; have:=b.toNat_lt; have:=c.toNat_lt; have:=d.toNat_lt
 unfold HN; omega
theorem Qsg (a b c d:UInt8):JR (HN a b c d:Int)=[a,b,c,d]:=by
 have ha:=a.toNat_lt; have hb:=b.toNat_lt; have hc:=c.toNat_lt; have hd:=d.toNat_lt
 have e:∀ (x:UInt8) (m:Int),m%256=x.toNat→Kf m=x:=fun x m h=>by
  apply UInt8.toNat.inj
  have:=ZD m
  omega
 unfold JR HN;rw [e a _ Qb,e b _ Qb,e c _ Qb,e d _ Qb]
theorem Qfh (n:Nat) (h:n<4294967296):HN (Kf n) (Kf ((n:Int) / 256)) (Kf ((n:Int) / 65536)) (Kf ((n:Int) / 16777216))=n:=by
 have h0:=ZD n;have h1:=ZD ((n:Int) / 256);have h2:=ZD ((n:Int) / 65536);have h3:=ZD ((n:Int) / 16777216);unfold HN
 omega
theorem Qvi {m n:Nat} (hm:m<4294967296) (hn:n<4294967296) (h:JR m=JR n):m=n:=by
 have h1:=Qfh m hm;have h2:=Qfh n hn;unfold JR at h;injection h with a h;injection h with b h;injection h with c h;injection h with d _;rw [a,b,c,d] at h1
 omega
end
section
open Go.RowKit
theorem VT {α β:Type} (f:α→List β) (k:Nat):∀ (l:List α) (j:Nat) (a:α),(∀ a∈l,(f a).length=k)→l[j]?=some a→((l.flatMap f).drop (j*k)).take k=f a
 | [],j,a,_,h=>by simp at h
 | x::l,0,a,hk,h=>by
  simp at h;subst h
  have:=hk x Q0
  simp [List.flatMap_cons,this]
 | x::l,j+1,a,hk,h=>by
  have hx:=hk x Q0;rw [List.flatMap_cons,Nat.succ_mul,Nat.add_comm,← List.drop_drop];rw [List.drop_append_of_le_length Qb,List.drop_of_length_le (l:=f x) Qb,List.nil_append];exact VT f k l j a (fun a ha=>hk a (by simp [ha])) (by simpa using h)
theorem ZZ {α β:Type} (f:α→List β) (k:Nat):∀ (l:List α),(∀ a∈l,(f a).length=k)→(l.flatMap f).length=l.length*k
 | [],_=>by simp
 | x::l,h=>by
  rw [List.flatMap_cons,List.length_append,h x Q0,ZZ f k l (fun a ha=>h a (by simp [ha])),List.length_cons,Nat.succ_mul]
  omega
end
section
open Go.RowKit
section
variable {P:Program} {N:Nat} {ds:List Deferred} {Q:Post} {l:Env} {w w':World} {ops:Array Oper} {rest:List Oper} {ty t t':TypeId} {pos:String} {aft:Array Edge} {d:Nat} {v u:Value} {x y:Operand} {k k':IntKind} {m m':Int} {g o n c:Nat}
theorem X.slA {e:TypeId} {q:TypeInfo} (hx:ev l x=some (.pointer (some ⟨g,o,none⟩))) (hu:P.underlying t=some (.array n e)) (hi:P.info? e=some q):X P l (.slice t x none none none) ty w (.slice (some ⟨g,o,none⟩) n n) w:=fun ρ hρ=>by
 unfold execOp
 have:(Instr.sliceAt t (.pointer (some ⟨g,o,none⟩)) none none none).run P w=.ok (.slice (some ⟨g,o,none⟩) n n) w:=by
  unfold Instr.sliceAt;simp [run_underlying hu,Instr.sureAddr,Instr.sliceBounds,sizeOf,typeInfo,hi,Addr.add]
 simp [hρ _ _ hx,this]
theorem Qve {t:TypeId} {s:Nat} (h:(P.info? t).map (·.size)=some s):∃ q,P.info? t=some q:=by
 obtain ⟨q,h1,_⟩:=Option.map_eq_some_iff.1 h;exact ⟨q,h1⟩
theorem XZ {e:TypeId} {s:Nat} (hx:ev l x=some (.pointer (some ⟨g,o,none⟩))) (hu:P.underlying t=some (.array n e)) (hi:(P.info? e).map (·.size)=some s):X P l (.slice t x none none none) ty w (.slice (some ⟨g,o,none⟩) n n) w:=by
 obtain ⟨q,hq⟩:=Qve hi;exact X.slA hx hu hq
theorem smkB {e:TypeId} {z:Value} {size bytes q:Nat} (hx:ev l x=some (.int k m)) (hy:ev l y=some (.int k' m')) (hm:m=(q:Int)) (hm':m'=(q:Int)) (ht:P.underlying t=some (.slice e)) (hinfo:(P.info? e).map (fun i=>(i.zero,i.size,i.bytes))=some (some z,size,bytes)) (hbytes:bytes*q≤281474976710656) (h63:q≤maxLen) (hd:Nat.blt d N=true)
  (h:∀ g w',Blk w' g e (madeCells z.cells (q*size))→w.heap.size≤g→Below w.heap.size w w'→g<w'.heap.size→WL P N ds ops Q rest ((d,.slice (some ⟨g,0,none⟩) q q)::l) w') :
  WL P N ds ops Q (⟨some d,.makeSlice t x y,ty,pos,aft,none⟩::rest) l w:=by
 obtain ⟨i,hi,hz,hsize,hby⟩:=Qbk hinfo
 subst hm hm' hsize hby
 have hb':(i.bytes:Int)*(q:Int)≤281474976710656:=by
  have h:((i.bytes*q:Nat):Int)≤281474976710656:=by omega
  rwa [Int.natCast_mul] at h
 have hr:=run_make (P:=P) w t e i z ht hi hz k k' q q Qb (Int.le_refl _) hb' (by simp only [maxLen] at h63; omega);simp only [Int.toNat_natCast] at hr
 refine st (w':=w.alloc (.cells (madeCells z.cells (q*i.size)) e)) (fun ρ hρ=>?_) hd<|h _ _ (Blk.new w e _) (Nat.le_refl _) ((Below.refl _ _).alloc (Nat.le_refl _) _) Q0
 unfold execOp;simp [hρ _ _ hx,hρ _ _ hy,hr]
theorem Qcu (z:Array Value) (q:Nat):(madeCells z q).size=q:=by simp [madeCells]
end
theorem Blk.row_ {w:World} {g:Nat} {e:TypeId} {cs:Array Value} (h:Blk w g e cs) {n size:Nat} (hs:cs.size=n*size) (hn:n≤maxLen):Row w e size (.slice (some ⟨g,0,none⟩) n n) n cs.toList :=
 ⟨by simpa using hs,.inr ⟨g,0,n,cs,(0,0),rfl,h,Nat.le_refl _,hn,by omega,by rw [List.drop_zero,List.take_of_length_le (by simp; omega)],fun j _=>by simp⟩⟩
theorem Row.apart_ {w:World} {e e':TypeId} {size size' n n':Nat} {v v':Value} {xs xs':List Value} (h:Row w e size v n xs) (h':Row w e' size' v' n' xs') (hne:e≠e') (k:Nat) (hk:v.ownBlock=some k):¬v'.ownBlock=some k:=by
 intro hk'
 rcases h.2 with ⟨rfl,_⟩|⟨g,off,cap,cur,fz,rfl,hg,_⟩
 ·simp [Value.ownBlock] at hk
 ·rcases h'.2 with ⟨rfl,_⟩|⟨g',off',cap',cur',fz',rfl,hg',_⟩
  ·simp [Value.ownBlock] at hk'
  ·simp [Value.ownBlock] at hk hk';subst hk;subst hk';rw [hg] at hg';injection hg' with hg';injection hg' with _ ht;exact hne ht
theorem KM {v:Value} {w0 w w':World} (hb:Below w0.heap.size w0 w) (hc:Chg (fun k=>v.ownBlock=some k) w w') (hg:∀ k,v.ownBlock=some k→w0.heap.size≤k):Below w0.heap.size w0 w' :=
 ⟨hc.os.trans hb.os,hc.tape.trans hb.tape,hc.output.trans hb.output,Nat.le_trans hb.size hc.size,fun k hk=>(hc.block k (Nat.lt_of_lt_of_le hk hb.size) (fun e=>by have:=hg k e; omega)).trans (hb.block k hk)⟩
theorem JE {v v':Value} {B n:Nat} (h:v'.ownBlock=v.ownBlock∨v'.ownBlock=some n) (h0:∀ k,v.ownBlock=some k→B≤k) (hn:B≤n):∀ k,v'.ownBlock=some k→B≤k:=by
 intro k hk
 rcases h with h|h
 ·exact h0 k<|h.symm.trans hk
 ·rw [h] at hk; injection hk with hk; omega
end
section
theorem XT (x:UInt32):BitVec.ofInt 32 (x.toNat:Int)=x.toBitVec:=by
 rw [BitVec.ofInt_natCast]; apply BitVec.eq_of_toNat_eq; simp
theorem UK (n:Nat) (h:n<4294967296):IntKind.u32.wrap (n:Int)=n:=by
 simp [IntKind.wrap,IntKind.bits,IntKind.signed]; omega
theorem Qgx (x y:UInt32):bits .or .u32 (x.toNat:Int) (y.toNat:Int)=((x ||| y).toNat:Int):=by
 show IntKind.u32.wrap ((BitVec.ofInt 32 (x.toNat:Int) ||| BitVec.ofInt 32 (y.toNat:Int)).toNat:Int)=_
 rw [XT,XT,← UInt32.toBitVec_or]; exact UK _ (x ||| y).toNat_lt
theorem Qil (x y:UInt32):bits .and .u32 (x.toNat:Int) (y.toNat:Int)=((x &&& y).toNat:Int):=by
 show IntKind.u32.wrap ((BitVec.ofInt 32 (x.toNat:Int) &&& BitVec.ofInt 32 (y.toNat:Int)).toNat:Int)=_
 rw [XT,XT,← UInt32.toBitVec_and]; exact UK _ (x &&& y).toNat_lt
theorem Kj (x y:UInt32):bits .xor .u32 (x.toNat:Int) (y.toNat:Int)=((x ^^^ y).toNat:Int):=by
 show IntKind.u32.wrap ((BitVec.ofInt 32 (x.toNat:Int) ^^^ BitVec.ofInt 32 (y.toNat:Int)).toNat:Int)=_
 rw [XT,XT,← UInt32.toBitVec_xor]; exact UK _ (x ^^^ y).toNat_lt
theorem add_u32 (x y:UInt32):((x.toNat:Int)+(y.toNat:Int))%4294967296=((x+y).toNat:Int):=by
 rw [UInt32.toNat_add]; omega
theorem wrap_u32 (x:UInt32):IntKind.u32.wrap (x.toNat:Int)=(x.toNat:Int):=UK _ x.toNat_lt
theorem K5 (x:UInt32) (n:Nat) (h:n<32):(x.toNat:Int) / ((2:Int) ^ n)=((x >>> (UInt32.ofNat n)).toNat:Int):=by
 rw [UInt32.toNat_shiftRight,UInt32.toNat_ofNat_of_lt' (by simp [UInt32.size]; omega),Nat.mod_eq_of_lt h,Nat.shiftRight_eq_div_pow]
 norm_cast
theorem Qbh (x:UInt32) (n:Nat) (h:n<32):(x.toNat:Int)*((2:Int) ^ n)%4294967296=((x <<< (UInt32.ofNat n)).toNat:Int):=by
 rw [UInt32.toNat_shiftLeft,UInt32.toNat_ofNat_of_lt' (by simp [UInt32.size]; omega),Nat.mod_eq_of_lt h,Nat.shiftLeft_eq];rw [Int.natCast_emod,Int.natCast_mul,Int.natCast_pow]; rfl
theorem HG (b:UInt8):(b.toNat:Int)%4294967296=(b.toUInt32.toNat:Int):=by
 have:=b.toNat_lt; rw [UInt8.toNat_toUInt32]; omega
theorem Uv (x:UInt32):(x.toNat:Int)%256=(x.toUInt8.toNat:Int):=by
 rw [UInt32.toNat_toUInt8]; omega
theorem Qnh (x:UInt32):(x.toNat:Int)<4294967296:=by have:=x.toNat_lt; omega
theorem Qfm (x:UInt8):(x.toNat:Int)<256:=by have:=x.toNat_lt; omega
end
section
open Go.RowKit
theorem QK {α:Type} {l:List α} {j:Nat} {x:α} (h:l[j]?=some x):l.take (j+1)=l.take j++[x]:=by
 obtain ⟨hj,rfl⟩:=List.getElem?_eq_some_iff.1 h;exact List.take_succ_eq_append_getElem hj
theorem Qtr {α:Type} {a b:List α} (h:a.length=b.length) (ht:a.take a.length=b.take a.length):a=b:=by
 rw [List.take_length,h,List.take_length] at ht;exact ht
theorem at_ne {α:Type} {a b:List α} {j:Nat} {x y:α} (hx:a[j]?=some x) (hy:b[j]?=some y) (h:x≠y):a≠b:=by
 rintro rfl;rw [hx] at hy
 exact h<|Option.some.inj hy
def num (s:List UInt8):Nat:=HN (s.getD 0 0) (s.getD 1 0) (s.getD 2 0) (s.getD 3 0)
theorem HM (s:List UInt8):num s<4294967296:=num4_lt _ _ _ _
theorem numAt (s:List UInt8) (i:Nat):num (s.drop i)=HN (s.getD i 0) (s.getD (i+1) 0) (s.getD (i+2) 0) (s.getD (i+3) 0):=by
 unfold num;simp [List.getD,List.getElem?_drop]
theorem Xz (s:List UInt8) (h:4≤s.length):JR (num s:Nat)++s.drop 4=s:=by
 match s,h with
 | a::b::c::d::r,_ =>
  show JR (HN a b c d:Nat)++r=_
  rw [Qsg]
  rfl
theorem Row.one {w:World} {e:TypeId} {size n:Nat} {v:Value} {xs:List Value} (h:Row w e size v n xs):v.oneCell'=true:=by
 obtain ⟨a,c,rfl,_,_⟩:=h.shape
 rfl
theorem Row.blt {w:World} {e:TypeId} {size n g o c k:Nat} {xs:List Value} (h:Row w e size (.slice (some ⟨g,o,none⟩) k c) n xs) (hn:0<n):g<w.heap.size:=by
 obtain ⟨g',o',c',he,hl⟩:=h.reads.some_ hn;injection he with e1 _ _;injection e1 with e1;injection e1 with e1 _ _
 rwa [e1]
theorem Qmz (a b k:Nat) (ha:a<2 ^ k) (hb:a+b*2 ^ k<9223372036854775808):bits .or .i64 (a:Int) ((b:Int)*((2 ^ k:Nat):Int))=((a+b*2 ^ k:Nat):Int):=by
 have e:(b:Int)*((2 ^ k:Nat):Int)=((b*2 ^ k:Nat):Int):=by rw [Int.natCast_mul]
 have h1:b*2 ^ k+a=b*2 ^ k ||| a:=by
  have:=Nat.shiftLeft_add_eq_or_of_lt (i:=k) ha b
  rwa [Nat.shiftLeft_eq] at this
 rw [e]
 show IntKind.i64.wrap ((BitVec.ofInt 64 (a:Int) ||| BitVec.ofInt 64 ((b*2 ^ k:Nat):Int)).toNat:Int)=_
 rw [BitVec.ofInt_natCast,BitVec.ofInt_natCast,BitVec.toNat_or,BitVec.toNat_ofNat,BitVec.toNat_ofNat,Nat.mod_eq_of_lt Qb,Nat.mod_eq_of_lt Qb,Nat.or_comm,← h1,Nat.add_comm];exact IntWalk.i64_in _ Qb
theorem Xk (cs:Array Value) (s:List UInt8) (o n:Nat) (h:s.length=n) (ho:o+n≤cs.size):(cs.toList.take o++s.map bv++cs.toList.drop (o+n)).toArray.size=cs.size:=by
 simp [h]; omega
end
section
open Go.RowKit
abbrev Key:=List UInt8
theorem Jt (a:Key):¬a<a:=List.lt_irrefl a
theorem JL {a b c:Key} (h:a<b) (k:b<c):a<c:=List.lt_trans h k
theorem Qsa {a b:Key} (h:a<b):¬b<a:=fun k=>Jt _ (JL h k)
theorem Ui (a b:Key):a<b∨a=b∨b<a:=by
 by_cases h:a<b
 ·exact .inl h
 ·by_cases k:b<a
  ·exact .inr<|.inr k
  ·exact .inr<|.inl<|List.le_antisymm (List.not_lt.1 k)<|List.not_lt.1 h
end
section
theorem HL (x:UInt8):BitVec.ofInt 8 (x.toNat:Int)=x.toBitVec:=by
 rw [BitVec.ofInt_natCast]; apply BitVec.eq_of_toNat_eq; simp
theorem Ho (n:Nat) (h:n<256):IntKind.u8.wrap (n:Int)=n:=by
 simp [IntKind.wrap,IntKind.bits,IntKind.signed]; omega
theorem or_u8 (x y:UInt8):bits .or .u8 (x.toNat:Int) (y.toNat:Int)=((x ||| y).toNat:Int):=by
 show IntKind.u8.wrap ((BitVec.ofInt 8 (x.toNat:Int) ||| BitVec.ofInt 8 (y.toNat:Int)).toNat:Int)=_
 rw [HL,HL,← UInt8.toBitVec_or]; exact Ho _ (x ||| y).toNat_lt
theorem and_u8 (x y:UInt8):bits .and .u8 (x.toNat:Int) (y.toNat:Int)=((x &&& y).toNat:Int):=by
 show IntKind.u8.wrap ((BitVec.ofInt 8 (x.toNat:Int) &&& BitVec.ofInt 8 (y.toNat:Int)).toNat:Int)=_
 rw [HL,HL,← UInt8.toBitVec_and]; exact Ho _ (x &&& y).toNat_lt
theorem xor_u8 (x y:UInt8):bits .xor .u8 (x.toNat:Int) (y.toNat:Int)=((x ^^^ y).toNat:Int):=by
 show IntKind.u8.wrap ((BitVec.ofInt 8 (x.toNat:Int) ^^^ BitVec.ofInt 8 (y.toNat:Int)).toNat:Int)=_
 rw [HL,HL,← UInt8.toBitVec_xor]; exact Ho _ (x ^^^ y).toNat_lt
theorem U0 (x y:ByteArray):(x++y).data.toList=x.data.toList++y.data.toList:=by
 rw [ByteArray.data_append,Array.toList_append]
theorem Qlq (x y:ByteArray):(x++y).size=x.size+y.size:=ByteArray.size_append
theorem VS (s:ByteArray) (i:Nat) (h:i<s.size):s.data.toList.getD i 0=s[i]:=by
 have hl:i<s.data.toList.length:=h;simp [List.getD,List.getElem?_eq_getElem hl]; rfl
end
section
namespace Crc
def poly:UInt32:=2197175160
def half (x:UInt32):UInt32:=if x &&& 1=1 then (x >>> 1) ^^^ poly else x >>> 1
def Qdd (x:UInt32):UInt32:=half (half (half (half (half (half (half (half x)))))))
def row (b:UInt8):UInt32:=Qdd b.toUInt32
def step (x:UInt32) (b:UInt8):UInt32:=(x >>> 8) ^^^ row (x.toUInt8 ^^^ b)
def stepB (x:UInt32) (b:UInt8):UInt32:=Qdd (x ^^^ b.toUInt32)
def ones:UInt32:=4294967295
def crc (l:List UInt8):UInt32:=(l.foldl step ones) ^^^ ones
theorem and1 (x:UInt32):x &&& 1=0∨x &&& 1=1:=by
 have h:(x &&& 1).toNat=x.toNat%2:=by
  rw [UInt32.toNat_and];exact Nat.and_one_is_mod _
 rcases Nat.mod_two_eq_zero_or_one x.toNat with h0|h0
 ·left; apply UInt32.toNat.inj; rw [h,h0]; rfl
 ·right; apply UInt32.toNat.inj; rw [h,h0]; rfl
theorem and1_nat (x:UInt32):(x &&& 1=1)↔x.toNat%2=1:=by
 have h:(x &&& 1).toNat=x.toNat%2:=by
  rw [UInt32.toNat_and];exact Nat.and_one_is_mod _
 constructor
 ·intro e; rw [e] at h; simpa using h.symm
 ·intro e; apply UInt32.toNat.inj; rw [h,e]; rfl
theorem Qbg (a b:UInt32) (n:UInt32):(a ^^^ b) >>> n=(a >>> n) ^^^ (b >>> n):=by
 apply UInt32.toBitVec_inj.1
 simp only [UInt32.toBitVec_shiftRight,UInt32.toBitVec_xor];exact BitVec.ushiftRight_xor_distrib _ _ _
theorem Qvg (a b:UInt32):half (a ^^^ b)=half a ^^^ half b:=by
 have e:(a ^^^ b) &&& 1=(a &&& 1) ^^^ (b &&& 1):=by
  apply UInt32.toBitVec_inj.1
  simp only [UInt32.toBitVec_and,UInt32.toBitVec_xor]
  apply BitVec.eq_of_getLsbD_eq
  intro i hi;simp only [BitVec.getLsbD_xor,BitVec.getLsbD_and,Bool.and_xor_distrib_right]
 have h0:∀ y:UInt32,y &&& 1=0→half y=y >>> 1:=fun y hy=>by unfold half; rw [if_neg (by rw [hy]; decide)]
 have h1:∀ y:UInt32,y &&& 1=1→half y=(y >>> 1) ^^^ poly:=fun y hy=>by unfold half; rw [if_pos hy]
 rcases and1 a with ha|ha <;> rcases and1 b with hb|hb
 ·rw [h0 a ha,h0 b hb,h0 _ (by rw [e,ha,hb]; decide),Qbg]
 ·rw [h0 a ha,h1 b hb,h1 _ (by rw [e,ha,hb]; decide),Qbg,UInt32.xor_assoc]
 ·rw [h1 a ha,h0 b hb,h1 _ (by rw [e,ha,hb]; decide),Qbg,UInt32.xor_assoc,UInt32.xor_comm (b >>> 1),← UInt32.xor_assoc]
 ·rw [h1 a ha,h1 b hb,h0 _ (by rw [e,ha,hb]; decide),Qbg,UInt32.xor_assoc (a >>> 1),← UInt32.xor_assoc poly,UInt32.xor_comm poly,UInt32.xor_assoc (b >>> 1),UInt32.xor_self,UInt32.xor_zero]
theorem Qsd (a b:UInt32):Qdd (a ^^^ b)=Qdd a ^^^ Qdd b:=by
 unfold Qdd;simp only [Qvg]
theorem Qud (x:UInt32):(x >>> 1).toNat=x.toNat / 2:=by
 rw [UInt32.toNat_shiftRight];simp [Nat.shiftRight_eq_div_pow]
theorem Km (x:UInt32) (h:x.toNat%2=0):(half x).toNat=x.toNat / 2:=by
 unfold half;rw [if_neg (by rw [and1_nat]; omega),Qud]
theorem Qnq (x:UInt32) (h:x.toNat%256=0):(Qdd x).toNat=x.toNat / 256:=by
 have h1:=Km x Qb;have h2:=Km (half x) Qb;have h3:=Km (half (half x)) Qb;have h4:=Km (half (half (half x))) Qb;have h5:=Km (half (half (half (half x)))) Qb;have h6:=Km (half (half (half (half (half x))))) Qb;have h7:=Km (half (half (half (half (half (half x)))))) Qb;have h8:=Km (half (half (half (half (half (half (half x))))))) Qb
 show (half (half (half (half (half (half (half (half x)))))))).toNat=_
 omega
theorem step_eq (x:UInt32) (b:UInt8):step x b=stepB x b:=by
 have e:x ^^^ b.toUInt32=(x &&& 4294967040) ^^^ (x.toUInt8 ^^^ b).toUInt32:=by
  apply UInt32.toBitVec_inj.1
  simp only [UInt32.toBitVec_xor,UInt32.toBitVec_and,UInt8.toBitVec_toUInt32,UInt8.toBitVec_xor,UInt32.toBitVec_toUInt8]
  apply BitVec.eq_of_getLsbD_eq
  intro i hi;simp only [BitVec.getLsbD_xor,BitVec.getLsbD_and,BitVec.getLsbD_setWidth]
  by_cases h8:i<8
  ·have:(UInt32.toBitVec 4294967040).getLsbD i=false:=by
    have:∀ j:Fin 8,(UInt32.toBitVec 4294967040).getLsbD j.val=false:=by decide
    exact this ⟨i,h8⟩
   rw [this,Bool.and_false,Bool.false_xor];simp [h8,hi]
  ·have:(UInt32.toBitVec 4294967040).getLsbD i=true:=by
    have:∀ j:Fin 32,¬j.val<8→(UInt32.toBitVec 4294967040).getLsbD j.val=true:=by decide
    exact this ⟨i,hi⟩ h8
   have hb:b.toBitVec.getLsbD i=false:=BitVec.getLsbD_of_ge _ _ Qb;rw [this,Bool.and_true,hb];simp [h8,hi]
 unfold step stepB row;rw [e,Qsd]
 congr 1
 have hn:(x &&& 4294967040).toNat=x.toNat / 256*256:=by
  rw [UInt32.toNat_and]
  show x.toNat &&& 4294967040=_
  have hx:=x.toNat_lt
  apply Nat.eq_of_testBit_eq
  intro i;rw [Nat.testBit_and,show x.toNat / 256*256=(x.toNat >>> 8) <<< 8 from by rw [Nat.shiftRight_eq_div_pow,Nat.shiftLeft_eq],Nat.testBit_shiftLeft,Nat.testBit_shiftRight]
  by_cases h8:i<8
  ·have:∀ j:Fin 8,Nat.testBit 4294967040 j.val=false:=by decide
   rw [this ⟨i,h8⟩]; simp; omega
  ·by_cases h32:i<32
   ·have:∀ j:Fin 32,¬j.val<8→Nat.testBit 4294967040 j.val=true:=by decide
    rw [this ⟨i,h32⟩ h8]; simp; rw [show 8+(i-8)=i from by omega]; simp; omega
   ·have h1:Nat.testBit x.toNat i=false:=Nat.testBit_lt_two_pow (Nat.lt_of_lt_of_le hx (Nat.pow_le_pow_right Qb (show 32≤i by omega)));simp [h1,show 8+(i-8)=i from by omega]
 apply UInt32.toNat.inj
 rw [Qnq _ Qb,hn,UInt32.toNat_shiftRight];simp [Nat.shiftRight_eq_div_pow]
theorem crcB (l:List UInt8) (x:UInt32):l.foldl stepB x=l.foldl step x:=by
 induction l generalizing x with
 | nil=>rfl
 | cons b l ih=>rw [List.foldl_cons,List.foldl_cons,step_eq,ih]
theorem ones_sub (x:UInt32):4294967295-(x.toNat:Int)=((x ^^^ ones).toNat:Int):=by
 have h:x.toNat+(x ^^^ ones).toNat=4294967295:=by
  have hx:x ^^^ ones = ~~~ x:=by
   apply UInt32.toBitVec_inj.1
   simp only [UInt32.toBitVec_xor,UInt32.toBitVec_not]
   show x.toBitVec ^^^ BitVec.allOnes 32=_
   exact BitVec.xor_allOnes
  rw [hx,UInt32.toNat_not];have hl:=x.toNat_lt
  have:UInt32.size=4294967296:=rfl
  omega
 omega
end Crc
end
section
open Go.RowKit
structure Ent where
  sum:List UInt8
  pack:Int
  pos:Int
  len:Int
  deriving DecidableEq
def YD (n:Int):Bool:=decide (0≤n∧n≤4294967295)
def Ze (e:Ent):Bool:=YD e.pack && YD e.pos && YD e.len
def Yt (l:List Ent):Prop:=∀ e∈l,e.sum.length=32
def Up (l:List Ent):Prop:=l.Pairwise (fun x y=>x.sum<y.sum)
theorem Up.nil:Up []:=List.Pairwise.nil
theorem Up.ext:∀ {l m:List Ent},Up l→Up m→(∀ x,x∈l↔x∈m)→l=m
 | [],[],_,_,_=>rfl
 | [],y::m,_,_,h=>absurd ((h y).2 Q0) Q0
 | x::l,[],_,_,h=>absurd ((h x).1 Q0) Q0
 | x::l,y::m,hl,hm,h=>by
  have hl':=List.pairwise_cons.1 hl;have hm':=List.pairwise_cons.1 hm
  have e:x=y:=by
   rcases List.mem_cons.1 ((h x).1 Q0) with e|hx
   ·exact e
   ·rcases List.mem_cons.1 ((h y).2 Q0) with e|hy
    ·exact e.symm
    ·exact absurd (JL (hm'.1 x hx) (hl'.1 y hy))<|Jt _
  subst e;refine congrArg (x::·) (Up.ext hl'.2 hm'.2 fun z=>?_)
  constructor
  ·intro hz
   rcases List.mem_cons.1 ((h z).1 (by simp [hz])) with rfl|h2
   ·exact absurd (hl'.1 z hz)<|Jt _
   ·exact h2
  ·intro hz
   rcases List.mem_cons.1 ((h z).2 (by simp [hz])) with rfl|h2
   ·exact absurd (hm'.1 z hz)<|Jt _
   ·exact h2
theorem Up.at_ {l:List Ent} (h:Up l) {i j:Nat} {x y:Ent} (hx:l[i]?=some x) (hy:l[j]?=some y) (hij:i<j):x.sum<y.sum:=by
 obtain ⟨h1,rfl⟩:=List.getElem?_eq_some_iff.1 hx;obtain ⟨h2,rfl⟩:=List.getElem?_eq_some_iff.1 hy;exact List.pairwise_iff_getElem.1 h i j h1 h2 hij
theorem Up.nodup {l:List Ent} (h:Up l):(l.map (·.sum)).Nodup:=by
 rw [List.Nodup,List.pairwise_map]
 exact h.imp fun {a b} hab e=>by rw [e] at hab; exact Jt _ hab
structure IsIdx (l' l:List Ent):Prop where
  perm:l'.Perm l
  up:Up l'
theorem IsIdx.uniq {l l1 l2:List Ent} (h1:IsIdx l1 l) (h2:IsIdx l2 l):l1=l2:=h1.up.ext h2.up fun x=>by rw [h1.perm.mem_iff,h2.perm.mem_iff]
def ordM (l:List Ent):List Ent:=l.mergeSort (fun x y=>!decide (y.sum<x.sum))
theorem XS (l:List Ent):(ordM l).Perm l:=List.mergeSort_perm _ _
theorem up_of {l:List Ent} (h:l.Pairwise (fun x y=>¬y.sum<x.sum)) (hn:(l.map (·.sum)).Nodup):Up l:=by
 rw [List.Nodup,List.pairwise_map] at hn
 exact (h.and hn).imp fun {a b} hab=>by
  rcases Ui a.sum b.sum with k|k|k
  ·exact k
  ·exact absurd k hab.2
  ·exact absurd k hab.1
theorem Qjz {l:List Ent} (hn:(l.map (·.sum)).Nodup):IsIdx (ordM l) l:=⟨XS l,by
 refine up_of ?_<|((XS l).map _).nodup_iff.2 hn
 have h:=List.pairwise_mergeSort (le:=fun x y:Ent=>!decide (y.sum<x.sum)) (fun a b c h1 h2=>by
  simp only [Bool.not_eq_true',decide_eq_false_iff_not] at *;intro h
  rcases Ui a.sum b.sum with k|k|k
  ·exact h2<|JL h k
  ·exact h2 (k▸h)
  ·exact h1 k) (fun a b=>by
  simp only [Bool.or_eq_true,Bool.not_eq_true',decide_eq_false_iff_not]
  by_cases k:b.sum<a.sum
  ·exact .inr<|Qsa k
  ·exact .inl k) l
 exact h.imp fun {a b} hab=>by simpa using hab⟩
theorem IsIdx.nodup {l l':List Ent} (h:IsIdx l' l):(l.map (·.sum)).Nodup:=(h.perm.map _).nodup_iff.1 h.up.nodup
theorem IsIdx.eq {l l':List Ent} (h:IsIdx l' l):l'=ordM l:=h.uniq (Qjz h.nodup)
def Jb (l:List Ent):List Ent×Int:=if 65536<l.length then ([],31) else if l.all Ze=false then ([],1) else if (l.map (·.sum)).Nodup then (ordM l,0) else ([],16)
theorem Qkl {l:List Ent} {x:Ent} (h:x∈(Jb l).1):x∈l:=by
 unfold Jb at h
 split at h
 ·simp at h
 split at h
 ·simp at h
 split at h
 ·exact (XS l).mem_iff.1 h
 ·simp at h
theorem Q5 {l:List Ent} (h:Yt l):Yt (Jb l).1:=fun e he=>h e (Qkl he)
theorem JQ (l:List Ent):(Jb l).1.length≤l.length:=by
 unfold Jb
 split
 ·simp
 split
 ·simp
 split
 ·exact Nat.le_of_eq (XS l).length_eq
 ·simp
theorem make_ok {l:List Ent} (h:(Jb l).2=0):l.length≤65536∧l.all Ze=true∧(l.map (·.sum)).Nodup∧(Jb l).1=ordM l∧IsIdx (Jb l).1 l:=by
 unfold Jb at h ⊢
 split at h
 ·cases h
 split at h
 ·cases h
 split at h
 ·rename_i h1 h2 h3
  rw [if_neg h1,if_neg h2,if_pos h3];exact ⟨by omega,by simpa using h2,h3,Z,Qjz h3⟩
 ·cases h
theorem Quy {l:List Ent} (h:(Jb l).2≠0):(Jb l).1=[]:=by
 unfold Jb at h ⊢
 split at h
 ·rw [if_pos ‹_›]
 rw [if_neg ‹_›]
 split at h
 ·rw [if_pos ‹_›]
 rw [if_neg ‹_›]
 split at h
 ·exact absurd Z h
 ·rw [if_neg ‹_›]
theorem Qux {l:List Ent} {x:Ent} (h:x∈(Jb l).1):Ze x=true:=by
 by_cases h0:(Jb l).2=0
 ·exact List.all_eq_true.1 (make_ok h0).2.1 x<|Qkl h
 ·rw [Quy h0] at h; simp at h
def Zf (l:List Ent) (a:List UInt8):Option Ent:=l.find? fun e=>decide (e.sum=a)
def hd (e:Ent):Nat:=(e.sum.headD 0).toNat
def Z9 (l:List Ent) (b:Nat):List Ent:=l.filter fun e=>decide (hd e=b)
def Y3 (l:List Ent) (b:Nat):Nat:=(l.filter fun e=>decide (hd e≤b)).length
theorem Qds (l:List Ent) (b:Nat):Y3 l b≤l.length:=List.length_filter_le _ _
theorem Qvu (l:List Ent) (b:Nat):Y3 l (b+1)=Y3 l b+(Z9 l (b+1)).length:=by
 unfold Y3 Z9
 induction l with
 | nil=>rfl
 | cons y l ih =>
  simp only [List.filter_cons]
  by_cases h1:hd y≤b
  ·rw [if_pos (by simp; omega),if_pos (by simpa using h1),if_neg (by simp; omega)];simp only [List.length_cons]
   omega
  ·by_cases h2:hd y=b+1
   ·rw [if_pos (by simp; omega),if_neg (by simpa using h1),if_pos (by simpa using h2)];simp only [List.length_cons]
    omega
   ·rw [if_neg (by simp; omega),if_neg (by simpa using h1),if_neg (by simpa using h2)];exact ih
theorem cnt_0 (l:List Ent):Y3 l 0=(Z9 l 0).length:=by
 unfold Y3 Z9;rw [List.filter_congr (p:=fun e:Ent=>decide (hd e≤0)) (q:=fun e=>decide (hd e=0)) (fun e _=>decide_eq_decide.2 Nat.le_zero)]
def Js (e:Ent):List UInt8:=e.sum++(JR e.pack++(JR e.pos++JR e.len))
theorem Xd {e:Ent} (h:e.sum.length=32):(Js e).length=44:=by simp [Js,h,Q9]
def kindB:List UInt8:=[70,65,78,49]
def UF (l:List Ent) (n:Nat):List UInt8:=(List.range n).flatMap fun b=>JR (Y3 l b:Nat)
theorem Ko (l:List Ent):∀ n,(UF l n).length=4*n
 | 0=>rfl
 | n+1=>by
  have:=Ko l n
  unfold UF at *;rw [List.range_succ,List.flatMap_append,List.length_append,this];simp [Q9]
  omega
theorem H1 (l:List Ent) (n:Nat):UF l (n+1)=UF l n++JR (Y3 l n:Nat):=by
 unfold UF;rw [List.range_succ,List.flatMap_append]
 simp
def Kg (l:List Ent):List UInt8:=kindB++UF l 256++l.flatMap Js
def Qpo (b:List UInt8):List UInt8:=b++JR (Crc.crc b).toNat
def ZH (l:List Ent):List UInt8:=Qpo (Kg l)
theorem YH {l:List Ent} (h:Yt l):(Kg l).length=1028+44*l.length:=by
 unfold Kg;rw [List.length_append,List.length_append,Ko,ZZ Js 44 l (fun e he=>Xd (h e he))];simp [kindB]
 omega
theorem XE {l:List Ent} (h:Yt l):(ZH l).length=1032+44*l.length:=by
 unfold ZH Qpo;rw [List.length_append,YH h,Q9]
 omega
def entsOf:Nat→List UInt8→List Ent
  | 0,_=>[]
  | n+1,s=>⟨s.take 32,num (s.drop 32),num (s.drop 36),num (s.drop 40)⟩::entsOf n (s.drop 44)
theorem entsOf_length:∀ n s,(entsOf n s).length=n
 | 0,_=>rfl
 | n+1,s=>by simp [entsOf,entsOf_length n]
theorem entsOf_at:∀ (n:Nat) (s:List UInt8) (j:Nat),j<n→(entsOf n s)[j]?=some ⟨(s.drop (44*j)).take 32,num (s.drop (44*j+32)),num (s.drop (44*j+36)),num (s.drop (44*j+40))⟩
 | 0,_,_,h=>by omega
 | n+1,s,0,_=>by simp [entsOf]
 | n+1,s,j+1,h=>by
  simp only [entsOf,List.getElem?_cons_succ];rw [entsOf_at n (s.drop 44) j Qb];simp only [List.drop_drop];rw [show 44+44*j=44*(j+1) by omega,show 44+(44*j+32)=44*(j+1)+32 by omega,show 44+(44*j+36)=44*(j+1)+36 by omega,show 44+(44*j+40)=44*(j+1)+40 by omega]
theorem Qdp (n:Nat) (s:List UInt8) (h:44*n≤s.length):Yt (entsOf n s):=by
 intro c hc;obtain ⟨j,hj,rfl⟩:=List.mem_iff_getElem.1 hc;rw [entsOf_length] at hj
 have:=entsOf_at n s j hj
 rw [List.getElem?_eq_getElem (by rw [entsOf_length]; exact hj)] at this;injection this with this;rw [this]
 simp
 omega
theorem Qoc (n:Nat) (s:List UInt8):(entsOf n s).all Ze=true:=by
 rw [List.all_eq_true];intro c hc;obtain ⟨j,hj,rfl⟩:=List.mem_iff_getElem.1 hc;rw [entsOf_length] at hj
 have:=entsOf_at n s j hj
 rw [List.getElem?_eq_getElem (by rw [entsOf_length]; exact hj)] at this;injection this with this;rw [this];have h1:=HM (s.drop (44*j+32));have h2:=HM (s.drop (44*j+36));have h3:=HM (s.drop (44*j+40));simp [Ze,YD]
 omega
theorem Qdg {n:Int}:YD n=true↔0≤n∧n<4294967296:=by
 unfold YD;rw [decide_eq_true_eq]
 omega
theorem Qvj {e:Ent}:Ze e=true↔(0≤e.pack∧e.pack<4294967296)∧(0≤e.pos∧e.pos<4294967296)∧(0≤e.len∧e.len<4294967296):=by
 unfold Ze;rw [Bool.and_eq_true,Bool.and_eq_true,Qdg,Qdg,Qdg,and_assoc]
theorem ents_forth:∀ (n:Nat) (s:List UInt8),44*n≤s.length→(entsOf n s).flatMap Js++s.drop (44*n)=s
 | 0,s,_=>by simp [entsOf]
 | n+1,s,h=>by
  have ih:=ents_forth n (s.drop 44) (by rw [List.length_drop]; omega);simp only [entsOf,List.flatMap_cons]
  have e2:s.drop (44*(n+1))=(s.drop 44).drop (44*n):=by rw [List.drop_drop]; congr 1; omega
  rw [e2,List.append_assoc,ih];unfold Js
  have e3:(s.drop 32).drop 4=s.drop 36:=by rw [List.drop_drop]
  have e4:(s.drop 36).drop 4=s.drop 40:=by rw [List.drop_drop]
  have e5:(s.drop 40).drop 4=s.drop 44:=by rw [List.drop_drop]
  show (s.take 32++(JR (num (s.drop 32))++(JR (num (s.drop 36))++JR (num (s.drop 40)))))++s.drop 44=s
  rw [List.append_assoc,List.append_assoc,List.append_assoc,← e5,Xz _ (by rw [List.length_drop]; omega),← e4,Xz _ (by rw [List.length_drop]; omega),← e3,Xz _ (by rw [List.length_drop]; omega),List.take_append_drop]
def upB:List Ent→Bool
  | []=>true
  | [_]=>true
  | c::d::l=>decide (c.sum<d.sum) && upB (d::l)
theorem upB_iff:∀ l:List Ent,upB l=true↔Up l
 | []=>by simp [upB,Up]
 | [_]=>by simp [upB,Up]
 | c::d::l=>by
  have ih:=upB_iff (d::l);simp only [upB,Bool.and_eq_true,decide_eq_true_eq,ih]
  constructor
  ·rintro ⟨h1,h2⟩;rw [Up,List.pairwise_cons];refine ⟨fun e he=>?_,h2⟩
   rcases List.mem_cons.1 he with rfl|he
   ·exact h1
   ·exact JL h1<|(List.pairwise_cons.1 h2).1 e he
  ·intro h;rw [Up,List.pairwise_cons] at h;exact ⟨h.1 d Q0,h.2⟩
theorem upB_at {l:List Ent} (h:upB l=true) {i:Nat} {c d:Ent} (hc:l[i]?=some c) (hd:l[i+1]?=some d):c.sum<d.sum:=((upB_iff l).1 h).at_ hc hd (Nat.lt_succ_self _)
theorem Qto {l:List Ent} {i:Nat} {c d:Ent} (hc:l[i]?=some c) (hd:l[i+1]?=some d) (hn:¬c.sum<d.sum):upB l=false:=by
 cases h:upB l with
 | false=>rfl
 | true=>exact absurd (upB_at h hc hd) hn
theorem Qpl {l:List Ent} {x:Ent} (h:Up l) (hx:∀ y∈l,y.sum<x.sum):Up (l++[x]):=by
 unfold Up;rw [List.pairwise_append];refine ⟨h,by simp,fun a ha b hb=>?_⟩;simp at hb;subst hb;exact hx a ha
theorem Qbx {l:List Ent} {i:Nat} {c d:Ent} (h:upB (l.take (i+1))=true) (hc:l[i]?=some c) (hd:l[i+1]?=some d) (hlt:c.sum<d.sum):upB (l.take (i+2))=true:=by
 rw [upB_iff] at h ⊢;rw [List.take_add_one (i:=i+1),hd]
 refine Qpl h fun a ha=>?_
 obtain ⟨j,hj⟩:=List.mem_iff_getElem?.1 ha;have hjl:=(List.getElem?_eq_some_iff.1 hj).1;rw [List.length_take] at hjl
 by_cases hji:j=i
 ·subst hji;rw [List.getElem?_take_of_lt Qb,hc] at hj;injection hj with hj;rw [← hj];exact hlt
 ·have hc':(l.take (i+1))[i]?=some c:=by rw [List.getElem?_take_of_lt Qb,hc]
  exact JL (h.at_ hj hc' Qb) hlt
def J5 (s:List UInt8):Int :=
  if s.length<1032 then 10
  else if s.take 4≠kindB then 14
  else if 65536<num (s.drop 1024) then 31
  else if s.length<1032+44*num (s.drop 1024) then 10
  else if 1032+44*num (s.drop 1024)<s.length then 11
  else if num (s.drop (s.length-4))≠(Crc.crc (s.take (s.length-4))).toNat then 13
  else 0
def lE (s:List UInt8):List Ent:=entsOf (num (s.drop 1024)) (s.drop 1028)
def H0 (s:List UInt8) (l:List Ent) (n:Nat):Prop:=∀ b,b<n→num (s.drop (4+4*b))=Y3 l b
def K3 (s:List UInt8):List Ent×Int :=
  if J5 s≠0 then ([],J5 s)
  else if upB (lE s)=false then ([],18)
  else if ZH (lE s)=s then (lE s,0) else ([],12)
theorem VZ {s:List UInt8} (h:J5 s=0):1032≤s.length∧s.take 4=kindB∧num (s.drop 1024)≤65536∧s.length=1032+44*num (s.drop 1024)∧num (s.drop (s.length-4))=(Crc.crc (s.take (s.length-4))).toNat:=by
 unfold J5 at h
 split at h
 ·cases h
 split at h
 ·cases h
 split at h
 ·cases h
 split at h
 ·cases h
 split at h
 ·cases h
 split at h
 ·cases h
 exact ⟨by omega,Classical.not_not.1 ‹_›,by omega,by omega,Classical.not_not.1 ‹_›⟩
theorem Qle (l:List Ent) (s:List UInt8) (hl:l.length<4294967296):∀ n,4+4*n≤s.length→(H0 s l n↔(s.drop 4).take (4*n)=UF l n)
 | 0,_=>by simp [H0,UF]
 | n+1,h=>by
  have ih:=Qle l s hl n Qb
  have e:(s.drop 4).take (4*(n+1))=(s.drop 4).take (4*n)++(s.drop (4+4*n)).take 4:=by
   rw [show 4*(n+1)=4*n+4 by omega,List.take_add,List.drop_drop]
  have e4:(s.drop (4+4*n)).take 4=JR (num (s.drop (4+4*n)):Nat):=by
   have:=Xz (s.drop (4+4*n)) (by rw [List.length_drop]; omega)
   have h2:=congrArg (List.take 4) this;rw [List.take_left' (Q9 _)] at h2;exact h2.symm
  have hcl:=Qds l n;rw [e,H1,e4]
  constructor
  ·intro hf;rw [ih.1 fun b hb=>hf b Qb,hf n Qb]
  ·intro hf;obtain ⟨h1,h2⟩:=List.append_inj' hf rfl;intro b hb
   rcases Nat.lt_or_ge b n with k|k
   ·exact ih.2 h1 b k
   ·obtain rfl:b=n:=by omega
    have:=HM (s.drop (4+4*b))
    exact Qvi Qb Qb h2
theorem Qpz {s:List UInt8} (h:J5 s=0):ZH (lE s)=s↔H0 s (lE s) 256:=by
 obtain ⟨h1,h2,h3,h4,h5⟩:=VZ h;have hl:(lE s).length=num (s.drop 1024):=entsOf_length _ _;rw [Qle (lE s) s Qb 256 Qb];have hforth:=ents_forth (num (s.drop 1024)) (s.drop 1028) (by rw [List.length_drop]; omega)
 have es:s=s.take 4++(s.drop 4).take 1024++s.drop 1028:=by
  rw [show (1028:Nat)=4+1024 from rfl,← List.drop_drop,List.append_assoc,List.take_append_drop,List.take_append_drop]
 have hS:Yt (lE s):=Qdp _ _ (by rw [List.length_drop]; omega);have hbl:=YH hS
 constructor
 ·intro he
  have:=congrArg (fun t:List UInt8=>(t.drop 4).take 1024) he
  refine Eq.trans this.symm ?_
  have e8:ZH (lE s)=kindB++(UF (lE s) 256++((lE s).flatMap Js++JR (Crc.crc (Kg (lE s))).toNat)):=by
   unfold ZH Qpo
   conv=>lhs; rw [show Kg (lE s)=kindB++UF (lE s) 256++(lE s).flatMap Js from rfl]
   rw [List.append_assoc,List.append_assoc]
   rfl
  have e7:(kindB++(UF (lE s) 256++((lE s).flatMap Js++JR (Crc.crc (Kg (lE s))).toNat))).drop 4=UF (lE s) 256++((lE s).flatMap Js++JR (Crc.crc (Kg (lE s))).toNat):=List.drop_left' rfl
  show ((ZH (lE s)).drop 4).take 1024=_
  rw [e8,e7]
  exact List.take_left'<|Ko _ _
 ·intro hf
  have hb:Kg (lE s)=s.take (s.length-4):=by
   have e0:s.drop 1028=(lE s).flatMap Js++s.drop (s.length-4):=by
    have e9:(s.drop 1028).drop (44*num (s.drop 1024))=s.drop (s.length-4):=by
     rw [List.drop_drop]
     congr 1
     omega
    rw [e9] at hforth;exact hforth.symm
   have e1:s=Kg (lE s)++s.drop (s.length-4):=by
    unfold Kg;rw [← hf,← h2,List.append_assoc (s.take 4++_),← e0];exact es
   have e2:(Kg (lE s)).length=s.length-4:=by rw [hbl,hl]; omega
   have:=congrArg (List.take (s.length-4)) e1
   rw [List.take_left' e2] at this;exact this.symm
  unfold ZH Qpo;rw [hb,← h5]
  have:=Xz (s.drop (s.length-4)) (by rw [List.length_drop]; omega)
  rw [List.drop_drop,show s.drop (s.length-4+4)=[] from List.drop_eq_nil_of_le Qb,List.append_nil] at this;rw [this,List.take_append_drop]
theorem Qic {s:List UInt8} (h:(K3 s).2=0):J5 s=0∧Up (lE s)∧ZH (lE s)=s∧(K3 s).1=lE s:=by
 unfold K3 at h ⊢
 split at h
 ·rename_i h0
  exact absurd h h0
 split at h
 ·cases h
 split at h
 ·rename_i h0 h1 h2
  rw [if_neg h0,if_neg h1,if_pos h2];exact ⟨Classical.not_not.1 h0,(upB_iff _).1 (by simpa using h1),h2,Z⟩
 ·cases h
theorem Qqa {s:List UInt8} (h:(K3 s).2≠0):(K3 s).1=[]:=by
 unfold K3 at h ⊢
 split at h
 ·rw [if_pos ‹_›]
 rw [if_neg ‹_›]
 split at h
 ·rw [if_pos ‹_›]
 rw [if_neg ‹_›]
 split at h
 ·exact absurd Z h
 ·rw [if_neg ‹_›]
theorem Qnj {s:List UInt8} (h:J5 s=0):Yt (lE s):=Qdp _ _ (by have:=VZ h; rw [List.length_drop]; omega)
theorem Qqb (s:List UInt8):Yt (K3 s).1:=by
 by_cases h:(K3 s).2=0
 ·rw [(Qic h).2.2.2];exact Qnj (Qic h).1
 ·rw [Qqa h]
  exact fun e he=>by simp at he
theorem Qof (s:List UInt8):(K3 s).1.length≤s.length:=by
 by_cases h:(K3 s).2=0
 ·rw [(Qic h).2.2.2]
  have:=VZ (Qic h).1
  have hl:(lE s).length=num (s.drop 1024):=entsOf_length _ _
  omega
 ·rw [Qqa h]
  simp
end
section
open Go.RowKit
section
variable {P:Program} {N:Nat} {ds:List Deferred} {Q:Post} {l:Env} {w:World} {ops:Array Oper} {rest:List Oper} {x y:Operand} {ty t:TypeId} {pos:String} {aft:Array Edge} {d g o n c:Nat}
theorem Jf {b c:Bool} (hx:ev l x=some (.bool b)) (hb:b=c):X P l (.move x) ty w (.bool c) w:=by
 subst hb;exact Qd hx
theorem scpT {e bt tx:TypeId} {s:List UInt8} {cs:Array Value} (hx:ev l x=some (.slice (some ⟨g,o,none⟩) n c)) (hy:ev l y=some (Qv s)) (hu:P.underlying t=some (.slice e)) (hi:(P.info? e).map (·.size)=some 1) (hB:Blk w g bt cs) (hl:n≤s.length) (ho:o+n≤cs.size) (hd:Nat.blt d N=true)
  (h:∀ w',Blk w' g bt (cs.toList.take o++(s.take n).map bv++cs.toList.drop (o+n)).toArray→Chg (fun k=>k=g) w w'→WL P N ds ops Q rest ((d,.int .i64 n)::l) w') :
  WL P N ds ops Q (⟨some d,.call { callee:=.builtin .copy,args:=#[x,y],argTypes:=#[t,tx] },ty,pos,aft,none⟩::rest) l w:=by
 obtain ⟨q,hq,hq1⟩:=Option.map_eq_some_iff.1 hi
 have hln:(s.take n).length=n:=by rw [List.length_take]; omega
 have hst:=run_storeCells_at P g o bt ((s.take n).map bv) 0 cs w hB (by simp only [List.length_map,hln]; simpa using ho) (Y5 _);simp only [Nat.add_zero,List.length_map,hln] at hst
 have hfc:(Builtin.firstCells 1 n (Qv s)).run P w=.ok ((s.take n).map bv).toArray w:=by
  have e0:((⟨s.toArray⟩:ByteArray).extract 0 n).data=(s.take n).toArray:=by
   have:=YE s 0 n
   unfold Qv at this;injection this with this;rw [this,List.drop_zero]
  show ((pure (((⟨s.toArray⟩:ByteArray).extract 0 n).data.map fun b=>Value.int .u8 b.toNat):Sem (Array Value))).run P w=_
  rw [e0,Sem.run_pure,List.map_toArray]
  rfl
 obtain ⟨bs,hbs⟩:∃ bs,(s.take n).map bv=bs:=⟨_,rfl⟩
 rw [hbs] at hst hfc h
 have hr:(Builtin.copy_ #[t,tx] ty #[.slice (some ⟨g,o,none⟩) n c,Qv s]).run P w=.ok (.int .i64 n) (w.setRow g (cs.toList.take o++bs++cs.toList.drop (o+n)).toArray):=by
  have e1:(Builtin.lenOf (Qv s)).run P w=.ok s.length w:=by simp [Builtin.lenOf,Qv]; rfl
  have e2:Nat.min s.length n=n:=Nat.min_eq_right hl;unfold Builtin.copy_;simp [run_underlying hu,e1,e2,sizeOf,typeInfo,hq,hq1,hfc,hst,goInt]
 refine st (fun ρ hρ=>?_) hd<|h _ (setRow_heap _ _ _ _ _ _ hB)<|(Chg.refl (fun k=>k=g) w).setRow (.inl Z) _
 unfold execOp;simp only [resolve,invoke,builtin,Sem.run_bind,Sem.run_pure,Result.andThen_ok,List.map_toArray,List.map_cons,List.map_nil,hρ _ _ hx,hρ _ _ hy,hr]
end
end
section
open Go.RowKit
section
variable {κ ν:Type} [DecidableEq κ]
def mget:List (κ×ν)→κ→Option ν
  | [],_=>none
  | (a,v)::m,k=>if k=a then some v else mget m k
def mput:List (κ×ν)→κ→ν→List (κ×ν)
  | [],k,v=>[(k,v)]
  | (a,u)::m,k,v=>if k=a then (a,v)::m else (a,u)::mput m k v
def mdel:List (κ×ν)→κ→List (κ×ν)
  | [],_=>[]
  | (a,u)::m,k=>if k=a then m else (a,u)::mdel m k
theorem Z6 (m:List (κ×ν)) (k:κ) (v:ν) (q:κ):mget (mput m k v) q=if q=k then some v else mget m q:=by
 induction m with
 | nil=>rfl
 | cons p m ih =>
  obtain ⟨a,u⟩:=p;unfold mput
  by_cases h:k=a
  ·subst h;rw [if_pos rfl];unfold mget
   by_cases hq:q=k
   ·simp [hq]
   ·simp [hq]
  ·rw [if_neg h];unfold mget;rw [ih]
   by_cases hq:q=a
   ·subst hq;rw [if_pos rfl,if_neg (fun e=>h e.symm),if_pos rfl]
   ·rw [if_neg hq,if_neg hq]
theorem JZ {m:List (κ×ν)} {k:κ}:mget m k=none↔k∉m.map (·.1):=by
 induction m with
 | nil=>simp [mget]
 | cons p m ih =>
  obtain ⟨a,u⟩:=p;unfold mget
  by_cases h:k=a
  ·simp [h]
  ·simp [h,ih]
theorem Qrv (m:List (κ×ν)) (k:κ) (v:ν):(mput m k v).map (·.1)=if k∈m.map (·.1) then m.map (·.1) else m.map (·.1)++[k]:=by
 induction m with
 | nil=>simp [mput]
 | cons p m ih =>
  obtain ⟨a,u⟩:=p;unfold mput
  by_cases h:k=a
  ·simp [h]
  ·rw [if_neg h,List.map_cons,ih]
   by_cases hm:k∈m.map (·.1)
   ·rw [if_pos hm,if_pos (by simp only [List.map_cons,List.mem_cons]; exact .inr hm)]
    rfl
   ·rw [if_neg hm,if_neg (by simp only [List.map_cons,List.mem_cons]; rintro (h1|h1); exact h h1; exact hm h1)]
    rfl
theorem Qcq {m:List (κ×ν)} (h:(m.map (·.1)).Nodup) (k:κ) (v:ν):((mput m k v).map (·.1)).Nodup:=by
 rw [Qrv]
 split
 ·exact h
 ·rename_i hk
  rw [List.nodup_append];refine ⟨h,by simp,fun a ha b hb=>?_⟩;simp at hb;subst hb;rintro rfl;exact hk ha
end
structure KeyLaw {κ:Type} [DecidableEq κ] (P:Program) (kt:TypeId) (enc:κ→Value):Prop where
  check:∀ (b:Bool) (k:κ) (w:World),(Instr.checkKey b 10000 kt (enc k)).run P w=.ok () w
  find:∀ (k:κ) (ks:List (κ×Value×Nat)) (w:World),(Instr.findKey kt (enc k) (ks.map fun p=>⟨enc p.1,p.2.1,p.2.2⟩)).run P w =
    .ok ((ks.findIdx? fun p=>decide (k=p.1)).bind fun i=>(ks[i]?).map fun p=>(i,p.2.1)) w
  same:∀ k,Instr.sameBits 10000 (enc k) (enc k)=true
structure MapAt {κ ν:Type} [DecidableEq κ] (w:World) (b:Nat) (enc:κ→Value) (encv:ν→Value) (m:List (κ×ν)):Prop where
  nodup:(m.map (·.1)).Nodup
  obj:∃ (ts:List Nat) (clock:Nat),ts.length=m.length∧ts.Pairwise (· < ·)∧(∀ t∈ts,t<clock)∧w.heap[b]?=some (.map ((m.zip ts).map fun p=>(⟨enc p.1.1,encv p.1.2,p.2⟩:MapEntry)).toArray clock)
section
variable {κ ν:Type} [DecidableEq κ] {w w':World} {b:Nat} {enc:κ→Value} {encv:ν→Value} {m:List (κ×ν)} {P:Program} {kt t e:TypeId}
theorem MapAt.lt (h:MapAt w b enc encv m):b<w.heap.size:=by
 obtain ⟨ts,clock,_,_,_,hb⟩:=h.obj;exact (Array.getElem?_eq_some_iff.1 hb).1
theorem MapAt.bel (h:MapAt w b enc encv m) (hb:Below w.heap.size w w'):MapAt w' b enc encv m:=by
 have hl:=h.lt;obtain ⟨ts,clock,h1,h2,h3,h4⟩:=h.obj;exact ⟨h.nodup,ts,clock,h1,h2,h3,(hb.block b hl).trans h4⟩
theorem MapAt.chg {S:Nat→Prop} (h:MapAt w b enc encv m) (hc:Chg S w w') (hn:¬S b):MapAt w' b enc encv m:=by
 have hl:=h.lt;obtain ⟨ts,clock,h1,h2,h3,h4⟩:=h.obj;exact ⟨h.nodup,ts,clock,h1,h2,h3,(hc.block b hl hn).trans h4⟩
theorem Qvk (k:κ) (m:List (κ×ν)) (ts:List Nat) (hl:ts.length=m.length) :
  (((m.zip ts).map fun p=>(p.1.1,encv p.1.2,p.2)).findIdx? fun p=>decide (k=p.1))=m.findIdx? fun p=>decide (k=p.1):=by
 induction m generalizing ts with
 | nil=>simp
 | cons p m ih =>
  cases ts with
  | nil=>simp at hl
  | cons t ts =>
   simp only [List.zip_cons_cons,List.map_cons,List.findIdx?_cons];rw [ih ts (by simpa using hl)]
theorem HP (k:κ) (m:List (κ×ν)):mget m k=(m.findIdx? fun p=>decide (k=p.1)).bind fun i=>(m[i]?).map (·.2):=by
 induction m with
 | nil=>rfl
 | cons p m ih =>
  obtain ⟨a,v⟩:=p;unfold mget;rw [List.findIdx?_cons]
  by_cases h:k=a
  ·simp [h]
  ·simp only [h,decide_false,if_false,ih]
   cases m.findIdx? fun p=>decide (k=p.1) <;> simp
theorem Ux (K:KeyLaw P kt enc) (k:κ) (m:List (κ×ν)) (ts:List Nat) (hl:ts.length=m.length) (w:World) :
  (Instr.findKey kt (enc k) ((m.zip ts).map fun p=>(⟨enc p.1.1,encv p.1.2,p.2⟩:MapEntry))).run P w =
   .ok ((m.findIdx? fun p=>decide (k=p.1)).bind fun i=>(m[i]?).map fun p=>(i,encv p.2)) w:=by
 have:=K.find k ((m.zip ts).map fun p=>(p.1.1,encv p.1.2,p.2)) w
 rw [List.map_map] at this;rw [show ((m.zip ts).map fun p=>(⟨enc p.1.1,encv p.1.2,p.2⟩:MapEntry))=(m.zip ts).map ((fun p:κ×Value×Nat=>(⟨enc p.1,p.2.1,p.2.2⟩:MapEntry)) ∘ fun p=>(p.1.1,encv p.1.2,p.2)) from rfl,this];rw [Qvk k m ts hl]
 congr 1
 cases hf:m.findIdx? fun p=>decide (k=p.1) with
 | none=>rfl
 | some i =>
  have hi:i<m.length:=(List.findIdx?_eq_some_iff_getElem.1 hf).1;simp only [Option.bind_some,List.getElem?_map];rw [List.getElem?_eq_getElem (by simp; omega),List.getElem?_eq_getElem hi]
  simp
theorem Vr {es:Array MapEntry} {clock:Nat} (hb:w.heap[b]?=some (.map es clock)):(getObj b).run P w=.ok (.map es clock) w:=by simp [getObj,Sem.run,hb]
theorem Qgm {es:Array MapEntry} {clock:Nat} (o:Obj) (hb:w.heap[b]?=some (.map es clock)):(setObj b o).run P w=.ok () { w with heap:=w.heap.setIfInBounds b o }:=by simp [setObj,Sem.run,hb]
theorem MapAt.lookup (h:MapAt w b enc encv m) (K:KeyLaw P kt enc) (ht:P.underlying t=some (.map kt e)) {z:Value} (hz:(zeroValue e).run P w=.ok z w) (k:κ) :
  (Instr.lookup t (.map (some b)) (enc k) false).run P w=.ok (((mget m k).map encv).getD z) w:=by
 obtain ⟨ts,clock,h1,h2,h3,h4⟩:=h.obj;unfold Instr.lookup;simp only [Sem.run_bind,run_underlying ht,Result.andThen_ok,Vr h4,Sem.run_pure,K.check,Ux K k m ts h1,HP]
 cases hf:m.findIdx? fun p=>decide (k=p.1) with
 | none=>simp [hz]
 | some i =>
  have hi:i<m.length:=(List.findIdx?_eq_some_iff_getElem.1 hf).1;simp [List.getElem?_eq_getElem hi]
theorem MapAt.lookupOk (h:MapAt w b enc encv m) (K:KeyLaw P kt enc) (ht:P.underlying t=some (.map kt e)) {z:Value} (hz:(zeroValue e).run P w=.ok z w) (k:κ) :
  (Instr.lookup t (.map (some b)) (enc k) true).run P w=.ok (.tuple #[((mget m k).map encv).getD z,.bool (mget m k).isSome]) w:=by
 obtain ⟨ts,clock,h1,h2,h3,h4⟩:=h.obj;unfold Instr.lookup;simp only [Sem.run_bind,run_underlying ht,Result.andThen_ok,Vr h4,Sem.run_pure,K.check,Ux K k m ts h1,HP]
 cases hf:m.findIdx? fun p=>decide (k=p.1) with
 | none=>simp [hz]
 | some i =>
  have hi:i<m.length:=(List.findIdx?_eq_some_iff_getElem.1 hf).1;simp [List.getElem?_eq_getElem hi]
theorem Qdv (w:World) (b:Nat) (o:Obj):Chg (fun k=>k=b) w { w with heap:=w.heap.setIfInBounds b o } :=
 ⟨rfl,rfl,rfl,by simp,fun k hk hn=>by
  show (w.heap.setIfInBounds b o)[k]?=_
  rw [Array.getElem?_setIfInBounds,if_neg (fun e=>hn e.symm)]⟩
theorem Qpi (k:κ) (v:ν):∀ (m:List (κ×ν)) (ts:List Nat) (i:Nat),ts.length=m.length→(m.findIdx? fun p=>decide (k=p.1))=some i →
  (((m.zip ts).map fun p=>(⟨enc p.1.1,encv p.1.2,p.2⟩:MapEntry)).toArray.modify i fun e=>{ e with key:=enc k,val:=encv v })=(((mput m k v).zip ts).map fun p=>(⟨enc p.1.1,encv p.1.2,p.2⟩:MapEntry)).toArray
 | [],ts,i,_,h=>by simp at h
 | (a,u)::m,[],i,hl,_=>by simp at hl
 | (a,u)::m,t::ts,i,hl,h=>by
  rw [List.findIdx?_cons] at h;unfold mput
  by_cases hk:k=a
  ·subst hk;simp at h;subst h
   simp
  ·simp only [hk,decide_false] at h;rw [if_neg hk]
   cases hf:m.findIdx? fun p=>decide (k=p.1) with
   | none=>rw [hf] at h; simp at h
   | some j =>
    rw [hf] at h;simp at h;subst h;have ih:=Qpi k v m ts j (by simpa using hl) hf
    apply Array.ext'
    have ih':=congrArg Array.toList ih;simp only [Array.toList_modify,List.zip_cons_cons,List.map_cons] at ih' ⊢;simp only [List.modify_succ_cons];rw [ih']
theorem VK (k:κ) (v:ν):∀ (m:List (κ×ν)),(m.findIdx? fun p=>decide (k=p.1))=none→mput m k v=m++[(k,v)]
 | [],_=>rfl
 | (a,u)::m,h=>by
  rw [List.findIdx?_cons] at h;unfold mput
  by_cases hk:k=a
  ·simp [hk] at h
  ·simp only [hk,decide_false] at h;rw [if_neg hk,VK k v m (by cases hf:m.findIdx? fun p=>decide (k=p.1) with|none=>rfl|some i=>rw [hf] at h; simp at h)]
   rfl
theorem Xa (k:κ) (v:ν):∀ (m:List (κ×ν)) (i:Nat),(m.findIdx? fun p=>decide (k=p.1))=some i→(mput m k v).length=m.length
 | [],_,h=>by simp at h
 | (a,u)::m,i,h=>by
  rw [List.findIdx?_cons] at h;unfold mput
  by_cases hk:k=a
  ·simp [hk]
  ·simp only [hk,decide_false] at h;rw [if_neg hk]
   cases hf:m.findIdx? fun p=>decide (k=p.1) with
   | none=>rw [hf] at h; simp at h
   | some j=>rw [List.length_cons,Xa k v m j hf,List.length_cons]
theorem MapAt.update (h:MapAt w b enc encv m) (K:KeyLaw P kt enc) (ht:P.underlying t=some (.map kt e)) (k:κ) (v:ν) :
  ∃ w',(Instr.mapUpdate t (.map (some b)) (enc k) (encv v)).run P w=.ok () w'∧MapAt w' b enc encv (mput m k v)∧Chg (fun q=>q=b) w w':=by
 have hlt:=h.lt;obtain ⟨ts,clock,h1,h2,h3,h4⟩:=h.obj
 cases hf:m.findIdx? fun p=>decide (k=p.1) with
 | none =>
  refine ⟨{ w with heap:=w.heap.setIfInBounds b (.map (((mput m k v).zip (ts++[clock])).map fun p=>(⟨enc p.1.1,encv p.1.2,p.2⟩:MapEntry)).toArray (clock+1)) },?_,⟨Qcq h.nodup k v,ts++[clock],clock+1,?_,?_,?_,?_⟩,Qdv _ _ _⟩
  ·unfold Instr.mapUpdate;simp only [Sem.run_bind,run_underlying ht,Result.andThen_ok,Vr h4,K.check,Ux K k m ts h1,hf,Option.bind_none];rw [Qgm _ h4,VK k v m hf,List.zip_append Qb]
   simp
  ·rw [VK k v m hf]; simp [h1]
  ·rw [List.pairwise_append]; exact ⟨h2,by simp,fun a ha c hc=>by simp at hc; subst hc; exact h3 a ha⟩
  ·intro q hq;rw [List.mem_append] at hq
   rcases hq with hq|hq
   ·have:=h3 q hq; omega
   ·simp at hq; omega
  ·simp [hlt]
 | some i =>
  have hi:i<m.length:=(List.findIdx?_eq_some_iff_getElem.1 hf).1
  have hki:m[i].1=k:=by
   have:=(List.findIdx?_eq_some_iff_getElem.1 hf).2.1
   simpa using (of_decide_eq_true this).symm
  refine ⟨{ w with heap:=w.heap.setIfInBounds b (.map (((mput m k v).zip ts).map fun p=>(⟨enc p.1.1,encv p.1.2,p.2⟩:MapEntry)).toArray clock) },?_,⟨Qcq h.nodup k v,ts,clock,?_,h2,h3,?_⟩,Qdv _ _ _⟩
  ·unfold Instr.mapUpdate;simp only [Sem.run_bind,run_underlying ht,Result.andThen_ok,Vr h4,K.check,Ux K k m ts h1,hf,Option.bind_some,List.getElem?_eq_getElem hi,Option.map_some]
   have hold:(((((m.zip ts).map fun p=>(⟨enc p.1.1,encv p.1.2,p.2⟩:MapEntry)).toArray[i]?).map (·.key)).getD (enc k))=enc k:=by
    rw [List.getElem?_toArray,List.getElem?_map,List.getElem?_eq_getElem (by simp; omega)];simp [hki]
   rw [hold]
   have hst:(Instr.keyThatStays (enc k) (enc k)).run P w=.ok (enc k) w:=by
    unfold Instr.keyThatStays;rw [K.same k]
    rfl
   simp only [hst,Result.andThen_ok];rw [Qgm _ h4,Qpi k v m ts i h1 hf]
  ·rw [Xa k v m i hf]; exact h1
  ·simp [hlt]
theorem MapAt.made (w:World) (enc:κ→Value) (encv:ν→Value):MapAt (w.alloc (.map #[] 0)) w.heap.size enc encv ([]:List (κ×ν)) :=
 ⟨by simp,[],0,rfl,by simp,by simp,heap_alloc_new w _⟩
end
section
variable {κ ν:Type} [DecidableEq κ] {enc:κ→Value} {encv:ν→Value} {m:List (κ×ν)} {P:Program} {N:Nat} {ds:List Deferred} {Q:Post} {l:Env} {w w':World} {ops:Array Oper} {rest:List Oper} {ty t kt e:TypeId} {pos:String} {aft:Array Edge} {d b:Nat} {x y u:Operand}
theorem smm (hd:Nat.blt d N=true) (h:∀ b w',MapAt w' b enc encv ([]:List (κ×ν))→w.heap.size≤b→Below w.heap.size w w'→b<w'.heap.size→WL P N ds ops Q rest ((d,.map (some b))::l) w'):WL P N ds ops Q (⟨some d,.makeMap t none,ty,pos,aft,none⟩::rest) l w:=by
 refine st (w':=w.alloc (.map #[] 0)) (fun ρ _=>?_) hd<|h _ _ (MapAt.made w enc encv) (Nat.le_refl _) ((Below.refl _ _).alloc (Nat.le_refl _) _) Q0
 unfold execOp;simp [Instr.makeMap]
theorem Vy {z:Value} (K:KeyLaw P kt enc) (hx:ev l x=some (.map (some b))) (k:κ) (hy:ev l y=some (enc k)) (ht:P.underlying t=some (.map kt e)) (hz:(zeroValue e).run P w=.ok z w) (hM:MapAt w b enc encv m) :
  X P l (.lookup t x y false) ty w (((mget m k).map encv).getD z) w:=fun ρ hρ=>by
 unfold execOp;simp only [hρ _ _ hx,hρ _ _ hy,Sem.run_bind,hM.lookup K ht hz k,Result.andThen_ok,Sem.run_pure]
theorem Qdz {z:Value} (K:KeyLaw P kt enc) (hx:ev l x=some (.map (some b))) (k:κ) (hy:ev l y=some (enc k)) (ht:P.underlying t=some (.map kt e)) (hz:(zeroValue e).run P w=.ok z w) (hM:MapAt w b enc encv m) :
  X P l (.lookup t x y true) ty w (.tuple #[((mget m k).map encv).getD z,.bool (mget m k).isSome]) w:=fun ρ hρ=>by
 unfold execOp;simp only [hρ _ _ hx,hρ _ _ hy,Sem.run_bind,hM.lookupOk K ht hz k,Result.andThen_ok,Sem.run_pure]
theorem smu (K:KeyLaw P kt enc) (hx:ev l x=some (.map (some b))) (k:κ) (v:ν) (hy:ev l y=some (enc k)) (hu:ev l u=some (encv v)) (ht:P.underlying t=some (.map kt e)) (hM:MapAt w b enc encv m)
  (h:∀ w',MapAt w' b enc encv (mput m k v)→Chg (fun q=>q=b) w w'→WL P N ds ops Q rest l w'):WL P N ds ops Q (⟨none,.mapUpdate t x y u,ty,pos,aft,none⟩::rest) l w:=by
 obtain ⟨w',hr,h1,h2⟩:=hM.update K ht k v
 refine ss (w':=w') (fun ρ hρ=>?_)<|h w' h1 h2
 unfold execOp;simp only [hρ _ _ hx,hρ _ _ hy,hρ _ _ hu,Sem.run_bind,hr,Result.andThen_ok,Sem.run_pure]
end
theorem Qlo (a b:ByteArray):(a == b)=(a.data == b.data):=rfl
theorem KZ {P:Program} {kt:TypeId} (hu:P.underlying kt=some .string):KeyLaw P kt Qv where
 check b k w:=by
  unfold Instr.checkKey;simp [run_underlying hu,Qv]
 find k ks w:=by
  have key:∀ (ks:List (List UInt8×Value×Nat)) (j:Nat),Instr.findNow .string (Qv k) (ks.map fun p=>(⟨Qv p.1,p.2.1,p.2.2⟩:MapEntry)) j=some ((ks.findIdx? fun p=>decide (k=p.1)).bind fun i=>(ks[i]?).map fun p=>(i+j,p.2.1)):=by
   intro ks
   induction ks with
   | nil=>intro j; rfl
   | cons p ks ih =>
    intro j;simp only [List.map_cons,Instr.findNow,Instr.sameNow,Qv,List.findIdx?_cons]
    have e:((⟨k.toArray⟩:ByteArray) == ⟨p.1.toArray⟩)=decide (k=p.1):=by
     rw [Qlo,Bool.eq_iff_iff,beq_iff_eq,decide_eq_true_eq]
     constructor
     ·intro h
      have:=congrArg Array.toList h
      simpa using this
     ·intro h; rw [h]
    rw [e]
    by_cases h:k=p.1
    ·simp [h]
    ·simp only [h,decide_false]
     have:=ih (j+1)
     simp only [Qv] at this;rw [this]
     cases ks.findIdx? fun p=>decide (k=p.1) with
     | none=>rfl
     | some i =>
      simp only [Option.map_some,Option.bind_some,List.getElem?_cons_succ,if_false,Bool.false_eq_true];rw [show i+1+j=i+(j+1) by omega]
  unfold Instr.findKey;simp only [Sem.run_bind,run_underlying hu,Result.andThen_ok,key ks 0,Sem.run_pure,Nat.add_zero]
 same k:=by
  show ((⟨k.toArray⟩:ByteArray) == ⟨k.toArray⟩)=true
  rw [Qlo]
  simp
end
section
open Go.RowKit
section
variable {κ ν:Type} [DecidableEq κ]
theorem Qkj (m:List (κ×ν)) (k:κ) (i:Nat) (h:(m.findIdx? fun p=>decide (k=p.1))=some i):mdel m k=m.eraseIdx i:=by
 induction m generalizing i with
 | nil=>simp at h
 | cons p m ih =>
  obtain ⟨a,u⟩:=p;rw [List.findIdx?_cons] at h;unfold mdel
  by_cases hk:k=a
  ·simp [hk] at h;subst h;simp [hk]
  ·simp only [hk,decide_false] at h;rw [if_neg hk]
   cases hf:m.findIdx? fun p=>decide (k=p.1) with
   | none=>rw [hf] at h; simp at h
   | some j =>
    rw [hf] at h;simp at h;subst h;rw [List.eraseIdx_cons_succ,ih j hf]
theorem Qrx (m:List (κ×ν)) (k:κ) (h:(m.findIdx? fun p=>decide (k=p.1))=none):mdel m k=m:=by
 induction m with
 | nil=>rfl
 | cons p m ih =>
  obtain ⟨a,u⟩:=p;rw [List.findIdx?_cons] at h;unfold mdel
  by_cases hk:k=a
  ·simp [hk] at h
  ·simp only [hk,decide_false] at h;rw [if_neg hk,ih (by cases hf:m.findIdx? fun p=>decide (k=p.1) with|none=>rfl|some j=>rw [hf] at h; simp at h)]
theorem HQ (a:κ) (u:ν) (m:List (κ×ν)) (q:κ):mget ((a,u)::m) q=if q=a then some u else mget m q:=rfl
theorem J0 {m:List (κ×ν)} (hn:(m.map (·.1)).Nodup) (k q:κ):mget (mdel m k) q=if q=k then none else mget m q:=by
 induction m with
 | nil=>simp [mdel,mget]
 | cons p m ih =>
  obtain ⟨a,u⟩:=p;rw [List.map_cons,List.nodup_cons] at hn;unfold mdel
  by_cases hk:k=a
  ·subst hk;rw [if_pos rfl]
   by_cases hq:q=k
   ·subst hq;rw [if_pos rfl];exact JZ.2 hn.1
   ·rw [if_neg hq,HQ,if_neg hq]
  ·rw [if_neg hk,HQ,HQ,ih hn.2]
   by_cases hq:q=a
   ·subst hq;rw [if_pos rfl,if_neg (fun e=>hk e.symm),if_pos rfl]
   ·rw [if_neg hq,if_neg hq]
end
section
variable {κ ν:Type} [DecidableEq κ] {w w':World} {b:Nat} {enc:κ→Value} {encv:ν→Value} {m:List (κ×ν)} {P:Program} {kt t e:TypeId}
theorem Qlc {m:List (κ×ν)} {k:κ} {i:Nat} (h:(m.findIdx? fun p=>decide (k=p.1))=some i):∃ v,m[i]?=some (k,v)∧mget m k=some v:=by
 have hi:=(List.findIdx?_eq_some_iff_getElem.1 h).1
 have hk:m[i].1=k:=by
  have:=(List.findIdx?_eq_some_iff_getElem.1 h).2.1
  simpa using (of_decide_eq_true this).symm
 refine ⟨m[i].2,by rw [List.getElem?_eq_getElem hi,← hk],?_⟩;rw [HP,h];simp [List.getElem?_eq_getElem hi]
theorem Qru {m:List (κ×ν)} {k:κ} {v:ν} (h:mget m k=some v):mput m k v=m:=by
 induction m with
 | nil=>cases h
 | cons p m ih =>
  obtain ⟨a,u⟩:=p;unfold mget at h;unfold mput
  by_cases hk:k=a
  ·rw [if_pos hk] at h ⊢;injection h with h;rw [h]
  ·rw [if_neg hk] at h ⊢;rw [ih h]
theorem MapAt.del (h:MapAt w b enc encv m) (K:KeyLaw P kt enc) (ht:P.underlying t=some (.map kt e)) (k:κ) (t2 ty:TypeId) :
  ∃ w',(Builtin.delete_ #[t,t2] ty #[.map (some b),enc k]).run P w=.ok (.tuple #[]) w'∧MapAt w' b enc encv (mdel m k)∧Chg (fun q=>q=b) w w':=by
 have hlt:=h.lt;obtain ⟨ts,clock,h1,h2,h3,h4⟩:=h.obj
 cases hf:m.findIdx? fun p=>decide (k=p.1) with
 | none =>
  refine ⟨{ w with heap:=w.heap.setIfInBounds b (.map ((m.zip ts).map fun p=>(⟨enc p.1.1,encv p.1.2,p.2⟩:MapEntry)).toArray clock) },?_,?_,Qdv _ _ _⟩
  ·unfold Builtin.delete_;simp only [List.getElem?_toArray,List.getElem?_cons_zero,List.getElem?_cons_succ,Sem.run_bind,run_underlying ht,Result.andThen_ok,Vr h4,K.check,Ux K k m ts h1,hf,Option.bind_none];rw [Qgm _ h4]
   simp
  ·rw [Qrx m k hf];exact ⟨h.nodup,ts,clock,h1,h2,h3,by simp [hlt]⟩
 | some i =>
  obtain ⟨v,hiv,hgv⟩:=Qlc hf;have hi:i<m.length:=(List.getElem?_eq_some_iff.1 hiv).1
  have hzip:((m.zip ts).map fun p=>(⟨enc p.1.1,encv p.1.2,p.2⟩:MapEntry)).eraseIdx i=((m.eraseIdx i).zip (ts.eraseIdx i)).map fun p=>(⟨enc p.1.1,encv p.1.2,p.2⟩:MapEntry):=by
   clear hf hiv hgv h4 h2 h3 hlt h
   induction m generalizing ts i with
   | nil=>simp
   | cons p m ih =>
    cases ts with
    | nil=>simp at h1
    | cons t ts =>
     cases i with
     | zero=>simp
     | succ i=>simp only [List.zip_cons_cons,List.map_cons,List.eraseIdx_cons_succ]; rw [ih ts (by simpa using h1) i (by simpa using hi)]
  refine ⟨{ w with heap:=w.heap.setIfInBounds b (.map (((m.eraseIdx i).zip (ts.eraseIdx i)).map fun p=>(⟨enc p.1.1,encv p.1.2,p.2⟩:MapEntry)).toArray clock) },?_,?_,Qdv _ _ _⟩
  ·unfold Builtin.delete_;simp only [List.getElem?_toArray,List.getElem?_cons_zero,List.getElem?_cons_succ,Sem.run_bind,run_underlying ht,Result.andThen_ok,Vr h4,K.check,Ux K k m ts h1,hf,Option.bind_some,hiv,Option.map_some];rw [Qgm _ h4]
   have:((((m.zip ts).map fun p=>(⟨enc p.1.1,encv p.1.2,p.2⟩:MapEntry)).toArray).eraseIdxIfInBounds i)=(((m.eraseIdx i).zip (ts.eraseIdx i)).map fun p=>(⟨enc p.1.1,encv p.1.2,p.2⟩:MapEntry)).toArray:=by
    rw [← hzip];rw [Array.eraseIdxIfInBounds,dif_pos (by simp; omega)]
    simp
   rw [this]
   simp
  ·rw [Qkj m k i hf];refine ⟨?_,ts.eraseIdx i,clock,?_,h2.sublist (List.eraseIdx_sublist ..),fun q hq=>h3 q ((List.eraseIdx_sublist ..).subset hq),by simp [hlt]⟩
   ·exact h.nodup.sublist<|(List.eraseIdx_sublist ..).map _
   ·rw [List.length_eraseIdx_of_lt Qb,List.length_eraseIdx_of_lt hi]; omega
end
section
variable {κ ν:Type} [DecidableEq κ] {enc:κ→Value} {encv:ν→Value} {m:List (κ×ν)} {P:Program} {N:Nat} {ds:List Deferred} {Q:Post} {l:Env} {w w':World} {ops:Array Oper} {rest:List Oper} {ty t kt e t2:TypeId} {pos:String} {aft:Array Edge} {d b:Nat} {x y u:Operand}
theorem sdel (K:KeyLaw P kt enc) (hx:ev l x=some (.map (some b))) (k:κ) (hy:ev l y=some (enc k)) (ht:P.underlying t=some (.map kt e)) (hM:MapAt w b enc encv m)
  (h:∀ w',MapAt w' b enc encv (mdel m k)→Chg (fun q=>q=b) w w'→WL P N ds ops Q rest l w'):WL P N ds ops Q (⟨none,.call { callee:=.builtin .delete,args:=#[x,y],argTypes:=#[t,t2] },ty,pos,aft,none⟩::rest) l w:=by
 obtain ⟨w',hr,h1,h2⟩:=hM.del K ht k t2 ty;intro a ha
 refine wpList_plain Z fun Kc hK=>?_
 unfold Oper.wp
 have:(execOp a.eval ⟨none,.call { callee:=.builtin .delete,args:=#[x,y],argTypes:=#[t,t2] },ty,pos,aft,none⟩).run P w=.ok (.value (.tuple #[])) w':=by
  unfold execOp;simp only [resolve,invoke,builtin,Sem.run_bind,Sem.run_pure,Result.andThen_ok,List.map_toArray,List.map_cons,List.map_nil,ha.knows _ _ hx,ha.knows _ _ hy,hr]
 rw [this]
 exact hK _ _<|h w' h1 h2 _ ha
end
end
section
open Go.RowKit
inductive Tr where
  | nil
  | yes (i:Nat) (t:Tr)
  | pick (r:Tr)
  | alt (i:Nat) (t r:Tr)
  | no
def Tr.main:Tr→Bool
  | .nil|.yes _ _|.pick _=>true
  | _=>false
def Tr.alts:Tr→List Nat
  | .alt i _ r=>i::r.alts
  | _=>[]
def Tr.high:Tr→Nat
  | .nil=>0
  | .yes _ t=>t.high+1
  | .pick r=>r.high
  | .alt _ t r=>max (t.high+1) r.high
  | .no=>0
def VB (ops:Array Oper):Tr→Array Bool→Bool
  | .nil,listed=>(Region.ready .any ops listed).isEmpty
  | .yes i t,listed=>decide (i<ops.size) && Region.free .any ops listed i && (Region.ready .any ops listed).contains i && t.main && VB ops t (listed.setIfInBounds i true)
  | .pick r,listed=>(Region.ready .any ops listed == r.alts) && !r.alts.isEmpty && VB ops r listed
  | .alt i t r,listed=>decide (i<ops.size) && t.main && VB ops t (listed.setIfInBounds i true) && VB ops r listed
  | .no,_=>true
def wpTr (P:Program) (os:List Oper) (Q:Exit→Act→World→Prop) (S:World→Prop):Tr→Act→World→Prop
  | .nil,a,w=>Q .normal a w
  | .yes i t,a,w=>∃ v,YieldsIf P os.toArray S (os.getD i default) v a∧wpTr P os Q S t (a.put (os.getD i default).dst v) w
  | .pick r,a,w=>wpTr P os Q S r a w
  | .alt i t r,a,w=>(if Region.wanted (os.getD i default) (yielded os.toArray a.tmps) then (os.getD i default).wp P a w (fun a' w'=>S w'∧wpTr P os Q S t a' w') Q else S w∧wpTr P os Q S t (a.put (os.getD i default).dst undef) w)∧wpTr P os Q S r a w
  | .no,_,_=>True
theorem Qgg {P:Program} {l:List Oper} {Q:Exit→Act→World→Prop} {S:World→Prop} (hs:Region.noSelect l.toArray=true) (hQ:∀ c a d v w,Q (.panic c) (a.put d v) w→Q (.panic c) a w) (t:Tr) :
  (t.main=true→∀ n listed a w,VB l.toArray t listed=true→t.high≤n→S w→wpTr P l Q S t a w→wpAnyH P .any l.toArray Q S n listed a w) ∧
  (∀ n listed a w,VB l.toArray t listed=true→t.high≤n+1→S w→wpTr P l Q S t a w→∀ j∈t.alts,wpOp P l.toArray Q j (fun a' w'=>S w'∧wpAnyH P .any l.toArray Q S n (listed.setIfInBounds j true) a' w') a w):=by
 induction t with
 | nil =>
  refine ⟨fun _ n listed a w hok _ _ h=>wpAnyH_done (by simpa [VB] using hok) h _,fun n listed a w _ _ _ _ j hj=>by cases hj⟩
 | yes i t ih =>
  refine ⟨fun _ n listed a w hok hn hS h=>?_,fun n listed a w _ _ _ _ j hj=>by cases hj⟩;simp only [VB,Bool.and_eq_true,decide_eq_true_eq] at hok;obtain ⟨v,hy,h⟩:=h
  have hi:i<l.length:=by simpa using hok.1.1.1.1
  have ho:l.toArray[i]?=some (l.getD i default):=by simp [hi]
  simp only [Tr.high] at hn
  obtain ⟨n,rfl⟩:∃ m,n=m+1:=⟨n-1,by omega⟩
  exact wpAnyH_take ho hs hok.1.1.1.2 hok.1.1.2 (fun c a w=>hQ c a _ _ w) hy hS<|ih.1 hok.1.2 n _ _ _ hok.2 Qb hS h
 | pick r ih =>
  refine ⟨fun _ n listed a w hok hn hS h=>?_,fun n listed a w _ _ _ _ j hj=>by cases hj⟩;simp only [VB,Bool.and_eq_true,beq_iff_eq] at hok
  have hne:r.alts≠[]:=by have:=hok.1.2; simpa using this
  simp only [Tr.high] at hn
  have h1:0<n:=by
   match r,hne with
   | .alt i t r',_=>simp only [Tr.high] at hn; omega
   | .nil,h=>exact absurd rfl h
   | .yes _ _,h=>exact absurd rfl h
   | .pick _,h=>exact absurd rfl h
   | .no,h=>exact absurd rfl h
  obtain ⟨n,rfl⟩:∃ m,n=m+1:=⟨n-1,by omega⟩
  exact wpAnyH_all hok.1.1 hne fun j hj=>ih.2 n listed a w hok.2 hn hS h j hj
 | alt i t r iht ihr =>
  refine ⟨fun h=>(by cases h),fun n listed a w hok hn hS h j hj=>?_⟩;simp only [VB,Bool.and_eq_true,decide_eq_true_eq] at hok;simp only [Tr.high] at hn
  rcases List.mem_cons.1 hj with rfl|hj
  ·have hi:j<l.length:=by simpa using hok.1.1.1
   have ho:l.toArray[j]?=some (l.getD j default):=by simp [hi]
   have hn':∀ a' w',S w'∧wpTr P l Q S t a' w'→S w'∧wpAnyH P .any l.toArray Q S n (listed.setIfInBounds j true) a' w':=fun a' w' h' =>
    ⟨h'.1,iht.1 hok.1.1.2 n _ _ _ hok.1.2 Qb h'.1 h'.2⟩
   refine wpOp_mono hn' ?_;unfold wpOp;simp only [ho];have h:=h.1
   split
   ·rename_i hw; rw [if_pos hw] at h; exact .inl h
   ·rename_i hw; rw [if_neg hw] at h; exact h
  ·exact ihr.2 n listed a w hok.2 Qb hS h.2 j hj
 | no =>
  exact ⟨fun h=>(by cases h),fun n listed a w _ _ _ _ j hj=>by cases hj⟩
theorem Qgf {P:Program} {Q:Exit→Act→World→Prop} {a:Act} {w:World} {id:Nat} {l:List Oper} (S:World→Prop) (t:Tr) (hm:P.follows .mixedOrders=true) (hok:(Region.noSelect l.toArray && t.main && VB l.toArray t (Array.replicate l.toArray.size false) && decide (t.high≤l.length))=true)
  (hQ:∀ c a d v w,Q (.panic c) (a.put d v) w→Q (.panic c) a w) (hS:S w.drew) (h:wpTr P l Q S t a w.drew):(Code.region id l.toArray true).wp P Q a w:=by
 simp only [Bool.and_eq_true,decide_eq_true_eq] at hok;refine wp_region_held (S:=S) hm ?_
 have:=(Qgg hok.1.1.1 hQ t).1 hok.1.1.2 l.length _ a w.drew hok.1.2 hok.2 hS h
 simpa using this
def WT (P:Program) (N:Nat) (ds:List Deferred) (os:List Oper) (Q:Post) (S:World→Prop) (t:Tr) (l:Env) (w:World):Prop :=
  ∀ a,Rep N ds l a→wpTr P os (X3 N ds Q) S t a w
section
variable {P:Program} {N:Nat} {ds:List Deferred} {Q:Post} {S:World→Prop} {os:List Oper} {t r:Tr} {l:Env} {w w':World} {op:Op} {ty:TypeId} {pos:String} {aft:Array Edge} {d i j g:Nat} {v:Value} {b:Bool}
theorem W_tr {id:Nat} (S:World→Prop) (t:Tr) (hm:P.follows .mixedOrders=true) (hok:(Region.noSelect os.toArray && t.main && VB os.toArray t (Array.replicate os.toArray.size false) && decide (t.high≤os.length))=true)
  (hQ:∀ c l w,Q (.panic c) l w→Q (.panic c) [] w) (hS:S w.drew) (h:WT P N ds os Q S t l w.drew):W P N ds Q (.region id os.toArray true) l w:=fun a ha =>
 Qgf S t hm hok (fun c a d v w hq=>by
  obtain ⟨l',hr,hq⟩:=hq;refine ⟨[],⟨?_,?_,fun t v h=>by cases h⟩,hQ c l' w hq⟩
  ·have:=hr.size
   cases d <;> simpa [Act.put] using this
  ·have:=hr.defers
   cases d <;> simpa [Act.put] using this) hS (h a ha)
theorem W_trN {id:Nat} (S:World→Prop) (t:Tr) (hm:P.follows .mixedOrders=true) (hok:(Region.noSelect os.toArray && t.main && VB os.toArray t (Array.replicate os.toArray.size false) && decide (t.high≤os.length))=true)
  (hS:S w.drew) (h:WT P N ds os (Yi (fun l w=>Q .normal l w)) S t l w.drew):W P N ds Q (.region id os.toArray true) l w:=fun a ha =>
 Code.wp_mono (fun e a w hq=>by
  obtain ⟨l',hr,hq⟩:=hq;refine ⟨l',hr,?_⟩
  cases e with
  | normal=>exact hq
  | _=>exact hq.elim) (W_tr (Q:=Yi (fun l w=>Q .normal l w)) S t hm hok (fun _ _ _ h=>h) hS h a ha)
theorem Y8 {id:Nat} {y:Code} (S:World→Prop) (t:Tr) (hm:P.follows .mixedOrders=true) (hok:(Region.noSelect os.toArray && t.main && VB os.toArray t (Array.replicate os.toArray.size false) && decide (t.high≤os.length))=true)
  (hS:S w.drew) (h:WT P N ds os (Yi (W P N ds Q y)) S t l w.drew):W P N ds Q (.seq (.region id os.toArray true) y) l w :=
 Qe (W_trN S t hm hok hS h)
theorem uN (h:Q .normal l w):WT P N ds os Q S .nil l w:=fun _ ha=>⟨_,ha,h⟩
theorem Qpw {o:Oper} (ho:os[i]?=some o):os.getD i default=o:=by
 rw [List.getD_eq_getElem?_getD,ho]; rfl
theorem uY (ho:os[i]?=some ⟨some d,op,ty,pos,aft,none⟩) (hx:∀ w,S w→X P l op ty w v w) (hd:Nat.blt d N=true) (h:WT P N ds os Q S t ((d,v)::l) w):WT P N ds os Q S (.yes i t) l w:=fun a ha=>by
 show ∃ v,_
 rw [Qpw ho];exact ⟨v,.inl ⟨Z,fun w hw=>hx w hw _ ha.knows⟩,h _ (ha.put hd v)⟩
theorem uP (h:WT P N ds os Q S r l w):WT P N ds os Q S (.pick r) l w:=fun a ha=>h a ha
theorem u0:WT P N ds os Q S .no l w:=fun _ _=>trivial
theorem uA {o:Oper} (ho:os[i]?=some o) (h:∀ Q',(∀ l w,S w→WT P N ds os Q S t l w→Q' .normal l w)→(∀ c l w,Q (.panic c) l w→Q' (.panic c) l w)→WL P N ds os.toArray Q' [o] l w) (hr:WT P N ds os Q S r l w):WT P N ds os Q S (.alt i t r) l w:=fun a ha=>by
 refine ⟨?_,hr a ha⟩;rw [Qpw ho]
 have:=h (fun e l w=>match e with|.normal=>S w∧WT P N ds os Q S t l w|.panic c=>Q (.panic c) l w|_=>False) (fun l w hs h=>⟨hs,h⟩) (fun c l w h=>h) a ha
 unfold wpList at this
 split
 ·rename_i hw
  rw [if_pos hw] at this
  rcases this with this|⟨_,a0,w0,hq⟩
  ·unfold Oper.wp at this ⊢
   revert this
   generalize (execOp a.eval o).run P w=res
   intro this;unfold Oper.upon at this ⊢
   split at this
   ·simp only [wpList] at this; obtain ⟨l',hr,hs,h⟩:=this; exact ⟨hs,h _ hr⟩
   ·simp only [wpList] at this; obtain ⟨l',hr,hs,h⟩:=this; exact ⟨hs,h _ hr⟩
   ·simp only [wpList] at this; obtain ⟨l',hr,hs,h⟩:=this; exact ⟨hs,h _ hr⟩
   ·refine Calls.mono this fun e w' h=>?_
    cases e with
    | returned v=>simp only [wpList] at h; obtain ⟨l',hr,hs,h⟩:=h; exact ⟨hs,h _ hr⟩
    | panicked c=>exact h
    | outgrown=>obtain ⟨a0,w0,l0,h1,h2⟩:=h; exact h2.elim
   ·refine Rows.mono this fun v w' h=>?_
    simp only [wpList] at h; obtain ⟨l',hr,hs,h⟩:=h; exact ⟨hs,h _ hr⟩
   ·exact this
   ·exact this.elim
  ·obtain ⟨l0,_,h2⟩:=hq; exact h2.elim
 ·rename_i hw
  rw [if_neg hw] at this;simp only [wpList] at this;obtain ⟨l',hr,hs,h⟩:=this;exact ⟨hs,h _ hr⟩
end
end
end Go.Proofs.YtgiccohjijhfkaaGreatDoor
