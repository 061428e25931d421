/- A part of the proof: what its functions compute. -/
import Derived.Test.YtjiiakjheghcoaaGreatDoorFd1
import Derived.Laws.Externs
import Derived.Test.YtjiiakjheghcoaaGreatDoorRows
import Derived.WalkKit
import Derived.ProofKit
import Derived.OpenShut
import Derived.ShutString
import Derived.ChangeOld
import Derived.Below
import Derived.SizedLaws
import Derived.Lib.SmallJoins
import Derived.Deep.SlicePairs
import Derived.Deep.Slices
set_option linter.unusedVariables false
set_option linter.unusedSimpArgs false
set_option maxRecDepth 100000
set_option maxHeartbeats 64000000
set_option linter.unusedSectionVars false
namespace Go.Proofs.Q0
open Go Go.RowKit Tryz
attribute [local irreducible] XS XC XA AY AR A9 A1 A0 Aa Ae AW SE
theorem wrap_u64 (n:Int):IntKind.u64.wrap n=n % 18446744073709551616:=by simp [IntKind.wrap,IntKind.signed,IntKind.bits]
theorem wrap_i64 (n:Int):IntKind.i64.wrap n=(n+9223372036854775808) % 18446744073709551616 - 9223372036854775808:=by
 simp only [IntKind.wrap,IntKind.signed,IntKind.bits];simp;split <;> omega
theorem Ih (a b c:Int) (ha:0≤a) (hb:0≤b) (hc0:0≤c) (hc:c≤1) (w:World) :
 AO prog 126 #[.int .u64 a,.int .u64 b,.int .u64 c] w fun v w'=>v = .tuple #[.int .u64 ((a+b+c) % 18446744073709551616),.int .u64 ((a+b+c) / 18446744073709551616)]∧w=w':=by
 refine .inr ⟨_,w,?_,rfl,rfl⟩;rw [run_callFunc_extern (fn:=f126) (by kernel_rfl) (by kernel_rfl) (by kernel_rfl) (by kernel_rfl) (e:=add64Entry) (by kernel_rfl),run_add64 a b c ha hb hc0 hc];rfl
def wv (x:Int):Value := .agg #[.int .i64 (x / 18446744073709551616),.int .u64 (x % 18446744073709551616)]
def Ac (x:Int):Prop:=-170141183460469231731687303715884105728≤x∧x < 170141183460469231731687303715884105728
instance (x:Int):Decidable (Ac x):=by unfold Ac;infer_instance
def EW (x:Int):Value:=if Ac x then .tuple #[wv x,.bool true] else .tuple #[wv 0,.bool false]
theorem KA {s hi lo:Int} (h:Ac s) (h1:hi=s / 18446744073709551616) (h2:lo=s % 18446744073709551616):packed [Value.agg #[.int .i64 hi,.int .u64 lo],.bool true]=EW s:=by
 unfold EW wv packed;rw [if_pos h,h1,h2]
theorem Jp {s:Int} (h:¬ Ac s):packed [Value.agg #[.int .i64 0,.int .u64 0],.bool false]=EW s:=by
 unfold EW wv packed;rw [if_neg h];rfl
theorem bP {s hi lo:Int} (h1:hi=s / 18446744073709551616) (h2:lo=s % 18446744073709551616):packed [Value.agg #[.int .i64 hi,.int .u64 lo]]=wv s:=by
 unfold wv packed;rw [h1,h2]
theorem decide_eq {p q:Prop} [Decidable p] [Decidable q] {b:Bool} (h:(decide p == decide q)=b):(b=true→(p↔q))∧(b=false→¬ (p↔q)):=by
 subst h;by_cases hp:p <;> by_cases hq:q <;> simp [hp,hq]
theorem decide_ne {p q:Prop} [Decidable p] [Decidable q] {b:Bool} (h:(decide p != decide q)=b):(b=false→(p↔q))∧(b=true→¬ (p↔q)):=by
 subst h;by_cases hp:p <;> by_cases hq:q <;> simp [hp,hq]
theorem P5 (x y:Int) (hx:Ac x) (hy:Ac y) (w0:World):AO prog 144 #[wv x,wv y] w0 fun v w'=>v=EW (x+y)∧AB [] w0 w':=by
 obtain ⟨hx1,hx2⟩:=hx;obtain ⟨hy1,hy2⟩:=hy;have hs:=St.nil w0;refine AS func144 ntmps144 ?_
 repeat' (first|refine Sa ?_|(refine al hs ?_;intro b w hz hs)|(refine bx hs ?_;intro b w hz hs)|fail)
 refine cl (h:=by exact Ih _ _ _ om om om om _) ?_;rintro v w' ⟨rfl,rfl⟩;refine Ja ?_;refine cl (h:=by exact Ih _ _ _ (by rw [wrap_u64];omega) (by rw [wrap_u64];omega) om om _) (k:=?_);rintro v w' ⟨rfl,rfl⟩
 repeat' (first|refine vs ?_|refine ps ?_|refine Aq ?_|refine Nx.h ?_|refine Eb ?_|(refine AV hs ?_;intro w hs)|(refine al hs ?_;intro b w hz hs)|((with_reducible apply BV);exact rfl;exact rfl;intro c hc;(fail_if_success have:true=c:=hc);(fail_if_success have:false=c:=hc);cases c)|refine xc_cond rfl (fun hc=>?_) fun hc=>?_|fail)
 all_goals (refine AG ?_)
 all_goals refine ⟨?_,hs.AE rfl⟩
 all_goals simp only [wrap_u64,wrap_i64] at *
 ·refine KA ?_ ?_ ?_
  all_goals have hc:=(decide_eq hc).2 rfl
  all_goals (try unfold Ac)
  all_goals omega
 ·refine Jp ?_
  all_goals have hd:=(decide_eq ‹(_ == _)=true›).1 rfl
  all_goals have hc:=(decide_ne ‹(_ != _)=true›).2 rfl
  all_goals (try unfold Ac)
  all_goals omega
 ·refine KA ?_ ?_ ?_
  all_goals have hd:=(decide_eq ‹(_ == _)=true›).1 rfl
  all_goals have hc:=(decide_ne ‹(_ != _)=false›).1 rfl
  all_goals (try unfold Ac)
  all_goals omega
def kL:Array Value→Sem Value:=fun args=>do
 let (x, y, b) ← Extern.MathBitsCarry.three "Sub64" args
 pure (Extern.MathBitsCarry.pair ((x+Extern.MathBitsCarry.m64 - y - b) % Extern.MathBitsCarry.m64) (if x < y+b then 1 else 0))
def bor (x y b:Int):Int:=if x < y+b then 1 else 0
theorem ML (a b c:Int) (ha:0≤a) (fU:a < 18446744073709551616) (hb:0≤b) (hb':b < 18446744073709551616) (hc0:0≤c) (hc:c≤1) (w:World) :
 AO prog 168 #[.int .u64 a,.int .u64 b,.int .u64 c] w fun v w'=>v = .tuple #[.int .u64 ((a - b - c) % 18446744073709551616),.int .u64 (bor a b c)]∧w=w':=by
 refine .inr ⟨_,w,?_,rfl,rfl⟩;obtain ⟨x,rfl⟩:=aDy ha;obtain ⟨y,rfl⟩:=aDy hb;obtain ⟨z,rfl⟩:=aDy hc0
 have hrun:(kL #[.int .u64 (x:Int),.int .u64 (y:Int),.int .u64 (z:Int)]).run prog w = .ok (.tuple #[.int .u64 (((x+18446744073709551616 - y - z) % 18446744073709551616:Nat):Int),.int .u64 ((if x < y+z then 1 else 0:Nat):Int)]) w:=by
  have:z=0∨z=1:=by omega
  rcases this with rfl | rfl <;> rfl
 rw [run_callFunc_extern (fn:=f168) (by kernel_rfl) (by kernel_rfl) (by kernel_rfl) (by kernel_rfl) (e:=kL) (by kernel_rfl),hrun];have e1:(((x+18446744073709551616 - y - z) % 18446744073709551616:Nat):Int)=((x:Int) - y - z) % 18446744073709551616:=by omega
 have e2:((if x < y+z then 1 else 0:Nat):Int)=bor x y z:=by unfold bor;split <;> split <;> omega
 rw [e1,e2];rfl
theorem Fp (x:Int) (h1:-9223372036854775808≤x) (h2:x < 9223372036854775808) (w0:World):AO prog 49 #[.int .i64 x] w0 fun v w'=>v=wv x∧AB [] w0 w':=by
 have hs:=St.nil w0;refine AS func49 ntmps49 ?_
 repeat' (first|refine Sa ?_|(refine st hs ?_;intro w hs)|(refine AV hs ?_;intro w hs)|(refine al hs ?_;intro b w hz hs)|refine Aw rfl (fun hc=>?_) fun hc=>?_|fail)
 all_goals (refine AG ?_)
 all_goals refine ⟨?_,hs.AE rfl⟩
 all_goals simp only [wrap_u64,wrap_i64] at *
 all_goals (refine bP ?_ ?_ <;> omega)
theorem Pn (x:Int) (h1:0≤x) (h2:x < 18446744073709551616) (w0:World):AO prog 188 #[.int .u64 x] w0 fun v w'=>v=wv x∧AB [] w0 w':=by
 have hs:=St.nil w0;refine AS func188 ntmps188 ?_
 repeat' (first|refine Sa ?_|(refine AV hs ?_;intro w hs)|(refine al hs ?_;intro b w hz hs)|fail)
 all_goals (refine AG ?_)
 all_goals refine ⟨?_,hs.AE rfl⟩
 all_goals (refine bP ?_ ?_ <;> omega)
def OE (x:Int):Int:=if x=-170141183460469231731687303715884105728 then x else -x
theorem Qu (x:Int) (hx:Ac x) (w0:World):AO prog 127 #[wv x] w0 fun v w'=>v=wv (OE x)∧AB [] w0 w':=by
 obtain ⟨hx1,hx2⟩:=hx;have hs:=St.nil w0;have hb:0≤bor 0 (x % 18446744073709551616) 0∧bor 0 (x % 18446744073709551616) 0≤1:=by unfold bor;split <;> omega
 refine AS func127 ntmps127 ?_
 repeat' (first|refine Sa ?_|(refine al hs ?_;intro b w hz hs)|(refine bx hs ?_;intro b w hz hs)|fail)
 refine cl (h:=by exact ML _ _ _ om om om om om om _) ?_;rintro v w' ⟨rfl,rfl⟩;refine Ja ?_;refine cl (h:=by exact ML _ _ _ om om (by rw [wrap_u64];omega) (by rw [wrap_u64];omega) om om _) (k:=?_);rintro v w' ⟨rfl,rfl⟩
 repeat' (first|refine Sa ?_|(refine AV hs ?_;intro w hs)|fail)
 all_goals (refine AG ?_)
 all_goals refine ⟨?_,hs.AE rfl⟩
 all_goals simp only [wrap_u64,wrap_i64,bor,OE] at *
 all_goals (refine bP ?_ ?_ <;> (try split) <;> (try split) <;> omega)
theorem iI {a b c d:Int} (h1:a=c) (h2:b=d):packed [Value.int .u64 a,.int .u64 b] = .tuple #[.int .u64 c,.int .u64 d]:=by rw [h1,h2];rfl
def sC (x:Int):Value := .tuple #[.int .u64 ((if x < 0 then -x else x) / 18446744073709551616),.int .u64 ((if x < 0 then -x else x) % 18446744073709551616)]
theorem pU (x:Int) (hx:Ac x) (w0:World):AO prog 124 #[wv x] w0 fun v w'=>v=sC x∧AB [] w0 w':=by
 have hx':=hx;obtain ⟨hx1,hx2⟩:=hx;have hs:=St.nil w0;refine AS func124 ntmps124 ?_
 repeat' (first|refine Sa ?_|(refine bx hs ?_;intro b w hz hs)|refine Aw rfl (fun hc=>?_) fun hc=>?_|fail)
 ·refine AZ hs (h:=by exact Qu x hx' _) ?_;intro w' ho hs
  repeat' (first|refine Nx.h ?_|(refine AV hs ?_;intro w hs)|fail)
  refine dr [] hs ?_;intro hX w hs;refine tks 0 7 ?_;refine en ?_;refine Jb ?_;refine AG ?_;refine ⟨?_,hs.AE rfl⟩;simp only [wrap_u64,OE] at *;refine iI ?_ ?_ <;> (try split) <;> (try split) <;> omega
 ·refine dr [] hs ?_;intro hX w hs;refine tks 0 7 ?_;refine en ?_;refine Jb ?_;refine AG ?_;refine ⟨?_,hs.AE rfl⟩;simp only [wrap_u64] at *;refine iI ?_ ?_ <;> (try split) <;> omega
theorem Sh (a:Int) (w0:World):AO prog 216 #[.int .i64 a] w0 fun v w'=>v = .bool false∧AB [] w0 w':=by
 have hs:=St.nil w0;refine AS func216 ntmps216 ?_;refine Ja ?_;refine AG ?_;exact ⟨by simp [packed],hs.AE rfl⟩
theorem SA (a:Int) (w0:World):AO prog 217 #[.int .u64 a] w0 fun v w'=>v = .bool false∧AB [] w0 w':=by
 have hs:=St.nil w0;refine AS func217 ntmps217 ?_;refine Ja ?_;refine AG ?_;exact ⟨by simp [packed],hs.AE rfl⟩
def C1 (a b:Int):Int:=if a < b then -1 else if b < a then 1 else 0
theorem PF (a b:Int) (w0:World):AO prog 183 #[.int .i64 a,.int .i64 b] w0 fun v w'=>v = .int .i64 (C1 a b)∧AB [] w0 w':=by
 have hs:=St.nil w0;refine AS func183 ntmps183 ?_;refine Ja ?_;refine AZ hs (h:=by exact Sh _ _) ?_;intro w' ho hs;refine Ja ?_;refine AZ hs (h:=by exact Sh _ _) ?_;intro w' ho hs
 repeat' (first|refine Sd ?_|refine Aw rfl (fun hc=>?_) fun hc=>?_|fail)
 all_goals (refine AG ?_)
 all_goals refine ⟨?_,hs.AE rfl⟩
 all_goals (simp only [packed,C1];simp [*])
theorem OT (a b:Int) (w0:World):AO prog 184 #[.int .u64 a,.int .u64 b] w0 fun v w'=>v = .int .i64 (C1 a b)∧AB [] w0 w':=by
 have hs:=St.nil w0;refine AS func184 ntmps184 ?_;refine Ja ?_;refine AZ hs (h:=by exact SA _ _) ?_;intro w' ho hs;refine Ja ?_;refine AZ hs (h:=by exact SA _ _) ?_;intro w' ho hs
 repeat' (first|refine Sd ?_|refine Aw rfl (fun hc=>?_) fun hc=>?_|fail)
 all_goals (refine AG ?_)
 all_goals refine ⟨?_,hs.AE rfl⟩
 all_goals (simp only [packed,C1];simp [*])
theorem dZ (p q:Int) (b:Nat) (e:TypeId) (w0:World) (hb:w0.heap[b]?=some (.cells #[.int .i64 p,.int .i64 q] e (0,0))) :
 AO prog 182 #[.slice (some ⟨b,0,none⟩) 2 2] w0 fun v w'=>v = .int .i64 (if p=0 then q else p)∧AB [] w0 w':=by
 have hs:=(St.nil w0).AH hb AA;refine AS func182 ntmps182 ?_;refine Ja ?_;refine BH (fun s=>[(3,.int .i64 0),(6,.slice (some ⟨b,0,none⟩) 2 2),(7,.int .i64 2),(8,.int .i64 (s:Nat))]) (fun s w=>s≤2∧(1≤s→p=0)∧(s=2→q=0)∧St w0 D0 [(b,.cells #[.int .i64 p,.int .i64 q] e (0,0),false)] w) (fun s=>2 - s) 0 Ad ⟨by omega,by omega,by omega,hs⟩ fun s env w ⟨h1,h2,h3,hs⟩=>?_;have:s=0∨s=1∨s=2:=by omega
 rcases this with rfl | rfl | rfl
 ·refine Je ?_;refine ix (h0:=(by decide)) (h1:=(by decide)) ?_
  repeat' (first|refine Sa ?_|refine xc_cond rfl (fun hc=>?_) fun hc=>?_|fail)
  ·refine AG ?_;refine ⟨?_,hs.keep hb⟩;have:p≠0:=by simpa using hc
   simp [packed,this]
  ·refine A2 1 (by decide) Ad ⟨by omega,fun _=>by simpa using hc,by omega,hs⟩
 ·refine Je ?_;refine ix (h0:=(by decide)) (h1:=(by decide)) ?_
  repeat' (first|refine Sa ?_|refine xc_cond rfl (fun hc=>?_) fun hc=>?_|fail)
  ·refine AG ?_;refine ⟨?_,hs.keep hb⟩;simp [packed,h2]
  ·refine A2 2 (by decide) Ad ⟨by omega,fun _=>h2 om,fun _=>by simpa using hc,hs⟩
 ·refine Jd ?_;refine AG ?_;refine ⟨?_,hs.keep hb⟩;simp [packed,h2,h3]
theorem agg_ok {s hi lo:Int} (h1:hi=s / 18446744073709551616) (h2:lo=s % 18446744073709551616):Value.agg #[.int .i64 hi,.int .u64 lo]=wv s:=by
 unfold wv;rw [h1,h2]
theorem uJ (x y:Int) (hx:Ac x) (hy:Ac y) (w0:World):AO prog 169 #[wv x,wv y] w0 fun v w'=>v=EW (x - y)∧AB [] w0 w':=by
 obtain ⟨hx1,hx2⟩:=hx;obtain ⟨hy1,hy2⟩:=hy;have hs:=St.nil w0;have hb:(0≤bor (x % 18446744073709551616) (y % 18446744073709551616) 0∧bor (x % 18446744073709551616) (y % 18446744073709551616) 0≤1)∧(x % 18446744073709551616 < y % 18446744073709551616∧bor (x % 18446744073709551616) (y % 18446744073709551616) 0=1∨y % 18446744073709551616≤x % 18446744073709551616∧bor (x % 18446744073709551616) (y % 18446744073709551616) 0=0):=by unfold bor;split <;> omega
 obtain ⟨hb,hb'⟩:=hb;refine AS func169 ntmps169 ?_
 repeat' (first|refine Sa ?_|(refine al hs ?_;intro b w hz hs)|(refine bx hs ?_;intro b w hz hs)|fail)
 refine cl (h:=by exact ML _ _ _ om om om om om om _) ?_;rintro v w' ⟨rfl,rfl⟩;refine Ja ?_;refine cl (h:=by exact ML _ _ _ (by rw [wrap_u64];omega) (by rw [wrap_u64];omega) (by rw [wrap_u64];omega) (by rw [wrap_u64];omega) om om _) (k:=?_);rintro v w' ⟨rfl,rfl⟩
 repeat' (first|refine vs ?_|refine ps ?_|refine Aq ?_|refine Nx.h ?_|refine Eb ?_|(refine AV hs ?_;intro w hs)|(refine al hs ?_;intro b w hz hs)|((with_reducible apply BV);exact rfl;exact rfl;intro c hc;(fail_if_success have:true=c:=hc);(fail_if_success have:false=c:=hc);cases c)|refine xc_cond rfl (fun hc=>?_) fun hc=>?_|fail)
 all_goals (refine AG ?_)
 all_goals refine ⟨?_,hs.AE rfl⟩
 all_goals simp only [wrap_u64,wrap_i64] at *
 all_goals clear hs
 all_goals generalize bor (x % 18446744073709551616) (y % 18446744073709551616) 0=B at *
 ·refine KA ?_ ?_ ?_
  all_goals have hc:=(decide_ne hc).1 rfl
  all_goals (try unfold Ac)
  all_goals omega
 ·refine Jp ?_
  all_goals have hd:=(decide_ne ‹(decide (x / 18446744073709551616 < 0) != decide (y / 18446744073709551616 < 0))=true›).2 rfl
  all_goals have hc:=(decide_ne hc).2 rfl
  all_goals (try unfold Ac)
  all_goals omega
 ·refine KA ?_ ?_ ?_
  all_goals have hd:=(decide_ne ‹(decide (x / 18446744073709551616 < 0) != decide (y / 18446744073709551616 < 0))=true›).2 rfl
  all_goals have hc:=(decide_ne hc).1 rfl
  all_goals (try unfold Ac)
  all_goals omega
theorem tJ (x:Int) (hx:Ac x) (w0:World):AO prog 195 #[wv x] w0 fun v w'=>v=EW (-x)∧AB [] w0 w':=by
 have hx':=hx;obtain ⟨hx1,hx2⟩:=hx;have hs:=St.nil w0;refine AS func195 ntmps195 ?_
 repeat' (first|refine Sa ?_|(refine AV hs ?_;intro w hs)|(refine al hs ?_;intro b w hz hs)|(refine bx hs ?_;intro b w hz hs)|refine xc_cond rfl (fun hc=>?_) fun hc=>?_|fail)
 ·refine AG ?_;refine ⟨?_,hs.AE rfl⟩;refine Jp ?_;simp [DQ] at hc;unfold Ac;omega
 ·refine AZ hs (h:=by exact Qu x hx' _) ?_;intro w' ho hs
  repeat' (first|refine Sb ?_|(refine AV hs ?_;intro w hs)|fail)
  refine AG ?_;refine ⟨?_,hs.AE rfl⟩;simp [DQ] at hc;unfold OE;rw [if_neg om];refine KA ?_ rfl rfl;unfold Ac;omega
end Go.Proofs.Q0
namespace Go.Proofs.Q0
open Go Go.RowKit Go.ChangeShapes Go.WideShapes Go.ChangeAt Tryz
theorem own:ownKnob prog.godebug=none:=by kernel_rfl
theorem laidOut:laidOutB prog=true:=by kernel_rfl
end Go.Proofs.Q0
namespace Go.Proofs.Q0
open Go Go.RowKit Tryz
section
variable {P : Program} {ops : Array Oper} {QE : Exit → Env → World → Prop} {n : Nat} {rest : List Oper} {env : Env} {w wb : World} {D : Ctx} {H : List Br} {T : MC}
 {d:Option Nat} {ty:Nat} {pos:String} {Am:Array Edge} {g:Option (Nat × Bool)}
theorem Ym {t e size bytes:Nat} (hu:P.underlying t=some (.slice e)) {i:TypeInfo} (hi:P.info? e=some i) (hs1:i.size=size) (hs2:i.bytes=bytes) {z:Value} (hz:i.zero=some z) (JJ:z.cells.size=size)
 {v:Value} {k:Nat} {xs news:List Value} {a:Addr} {c m:Nat} (hO:OI wb D H e size v k xs w) (hl:news.length=c*size) (hc0:0 < c) (hcs:∀ (j:Nat) u,news[j]?=some u→w.cell? (a.add j)=some u) (h1:∀ u∈news,u.oneCell'=true)
 (hk:(k+c)*bytes≤140737488355328) (hk':k+c≤9223372036854775807) :
 ∃ v' w',(Builtin.append_ #[t,t] ty #[v,.slice (some a) c m]).run P w = .ok v' w'∧OI wb D H e size v' (k+c) (xs ++ news) w'∧v' ≠ .slice none 0 0:=by
 subst hs1 hs2
 have hcb:c*i.bytes≤281474976710656:=by
  have:=Nat.mul_le_mul_right i.bytes (show c≤k+c by omega);omega
 rcases hO with ⟨rfl,rfl,rfl,hs⟩ | ⟨g,cap,cur,rfl,hc,U0,hxl,l6,hs⟩
 ·have hr:=run_append_nil (P:=P) w t ty e i z hu hi hz a c m news hl hcs hc0 om hcb;refine ⟨_,_,hr,.inr ⟨w.heap.size,grownCap w c 0 e,(news.toArray ++ Builtin.zeroCells z.cells (grownCap w c 0 e - c)).toList,by rw [aDO],by rw [aDO];exact grownCap_ge w c 0 e,?_,?_,?_,hs.VK.alloc _⟩,by simp⟩
  ·have:=grownCap_ge w c 0 e;simp only [aDl,aCv,Lt,JJ,hl];rw [← aDH];congr 1;omega
  ·rw [aDO,aDV,hl]
  ·rw [aDV,aDO,aDl,aD3 (by simp [hl])];exact aDM (by simp [hl])
 ·have hg:=hs.get At.head;by_cases hroom:k+c≤cap
  ·have hfit:k*i.size+news.length≤cur.toArray.size:=by
    rw [hl,List.size_toArray,U0,← aDH];exact Nat.mul_le_mul_right _ hroom
   have hr:=run_append_room (P:=P) w t ty e i hu hi g k cap cur.toArray hg a c m news hl hcs h1 hroom hfit;simp only [List.size_toArray] at hfit;refine ⟨_,_,hr,.inr ⟨g,cap,(cur.take (k*i.size) ++ news ++ cur.drop (k*i.size+news.length)),rfl,hroom,?_,?_,?_,hs.row At.head _⟩,by simp⟩
   ·simp only [aCv,aDg,List.length_drop];omega
   ·rw [aCv,hxl,hl,aDH]
   ·rw [aDQ,← aDQ,l6,aD3 (by rw [aCv,hxl,hl,aDH];exact aC5 _)];exact aDM (by rw [aCv,hxl,hl,aDH];exact aC5 _)
  ·have hold:∀ (j:Nat) u,xs[j]?=some u→w.cell? ((⟨g,0,none⟩:Addr).add j)=some u:=fun j u hj=>by
    rw [Em];rw [← l6,aDz] at hj;split at hj
    ·simp [World.cell?,hg,hj]
    ·cases hj
   have hr:=run_append_grow (P:=P) w t ty e i z hu hi hz ⟨g,0,none⟩ k cap xs hxl hold a c m news hl hcs om om (growslice_fits om hk);have hge:=grownCap_ge w (k+c) cap e;refine ⟨_,_,hr,.inr ⟨w.heap.size,grownCap w (k+c) cap e,(xs.toArray ++ news.toArray ++ Builtin.zeroCells z.cells (grownCap w (k+c) cap e - (k+c))).toList,rfl,hge,?_,?_,?_,(hs.VK.alloc _).swap.Bx⟩,by simp⟩
   ·simp only [aDl,aCv,Lt,JJ,hl,hxl];rw [← aDH,← aDH];congr 1;omega
   ·rw [aCv,hxl,hl,aDH]
   ·rw [aDl,aDl,aD3 (by simp [hxl,hl,aDH])];exact aDM (by simp [hxl,hl,aDH])
theorem SC (hT:Be P T) {t e size bytes:Nat} {zs news:List Value} {x y:Operand} {v:Value} {k c m:Nat} {a:Addr} {xs:List Value} (hw:Ax ops env g=true) (Co:look t T.sls=some (e,size,bytes)) (hz:look e T.zs=some zs) (hzl:Nat.beq zs.length size=true)
 (hx:ev env x=v) (hy:ev env y = .slice (some a) c m) (hl:news.length=c*size) (hc0:0 < c) (hcs:∀ (j:Nat) u,news[j]?=some u→w.cell? (a.add j)=some u) (h1:∀ u∈news,u.oneCell'=true) (hO:OI wb D H e size v k xs w)
 (hk:(k+c)*bytes≤140737488355328) (hk':k+c≤9223372036854775807) (kk:∀ v' w',OI wb D H e size v' (k+c) (xs ++ news) w'→v' ≠ .slice none 0 0→XS P ops QE n rest (Bf env d v') w') :
 XS P ops QE n (⟨d,.call { callee := .builtin .append,args:=#[x,y],argTypes:=#[t,t] },ty,pos,Am,g⟩ :: rest) env w:=by
 obtain ⟨hu,i,hi,hs1,hs2⟩:=GL (hT.sl Co);obtain ⟨i',z,hi',PT,JJ⟩:=Pc (hT.z hz);rw [hi] at hi';cases hi';obtain ⟨v',w',hr,h2,h3⟩:=Ym (P:=P) (ty:=ty) (m:=m) hu hi hs1 hs2 PT (by rw [JJ];simpa using aDT hzl) hO hl hc0 hcs h1 hk hk';refine XS.value hw (v:=v') (w':=w') ?_ (kk v' w' h2 h3);simp [execOp,resolve,aCz,invoke,builtin,hx,hy,hr]
theorem Mp (hT:Be P T) {t e size bytes:Nat} (hw:Ax ops env g=true) (Co:look t T.sls=some (e,size,bytes)) (hs:St wb D H w)
 (k:∀ v w',OI wb D H e size v 0 [] w'→v ≠ .slice none 0 0→XS P ops QE n rest (Bf env d v) w') :
 XS P ops QE n (⟨d,.buildSlice t 0 #[],ty,pos,Am,g⟩ :: rest) env w:=by
 obtain ⟨hu,i,hi,hs1,hs2⟩:=GL (hT.sl Co);refine XS.value hw (w':={ w with heap:=w.heap.push (.cells #[] e) }) (v := .slice (some ⟨w.heap.size,0,none⟩) 0 0) ?_ (k _ _ (.inr ⟨w.heap.size,0,[],rfl,aC5 _,by simp,by simp,by simp,hs.alloc _⟩) AA);simp only [execOp,aCz,Instr.buildSlice,BG hu,aDX,sizeOf,CD hi,aDW];simp [Instr.fill,newRow,newObj,Sem.run,aCz];rw [show (Array.range 0).map (fun _=>(default:Value))=#[] by simp [Array.range]]
theorem St.En (hs:St wb D H w):St w D0 (H.map fun e=>(e.1,e.2.1,false)) w where
 at_:=fun e he=>by
  obtain ⟨e',he',rfl⟩:=List.mem_map.1 he;exact hs.at_ e' he'
 nd:=by rw [List.map_map];exact hs.nd
 new:=fun p hp h=>by
  obtain ⟨e,he,rfl⟩:=List.mem_map.1 hp;obtain ⟨e',he',rfl⟩:=List.mem_map.1 he;cases h
 os:=rfl
 tape:=rfl
 output:=rfl
 size:=aC5 _
 frame:=fun _ _ _ _=>rfl
 ro:=by simp [D0]
 ap:=by simp [D0]
end
theorem St.AD {wb w:World} {D:Ctx} {H:List Br} (hs:St wb D H w) (F:List Nat) (hF:∀ e∈H,e.2.2=true∨e.1∈F∨wb.heap[e.1]?=some e.2.1) (hD:∀ k∈D.dirty,k∈F):AB F wb w :=
 ⟨hs.os,hs.tape,hs.output,hs.size,fun k hk hn=>by
  by_cases h1:k∈H.map (·.1)
  ·obtain ⟨e,he,rfl⟩:=List.mem_map.1 h1;rcases hF e he with h | h | h
   ·exact absurd hk (Nat.not_lt.2 (hs.new (e.1,e.2.2) (List.mem_map.2 ⟨e,he,rfl⟩) h))
   ·exact absurd h hn
   ·rw [hs.at_ e he,h]
  ·exact hs.frame k hk (fun h=>hn (hD k h)) h1⟩
theorem AB.step {w0 w1 w2:World} {F G:List Nat} (h:AB F w0 w1) (k:AB G w1 w2) (hG:∀ k∈G,k∈F∨w0.heap.size≤k):AB F w0 w2 :=
 (h.trans k).mono fun k hk hm=>by
  rcases aC4.1 hm with hm | hm
  ·exact hm
  ·rcases hG k hm with h | h
   ·exact h
   ·omega
theorem A3 {w:World} {a b:Nat} {ca cb:Array Value} {ta tb:TypeId} {fa fb:Nat × Nat} (h:w.heap[a]?=some (.cells ca ta fa)) (k:w.heap[b]?=some (.cells cb tb fb)) (hne:ta≠tb):a≠b:=fun e=>by
 subst e;rw [h] at k;cases k;exact hne rfl
section
variable {P : Program} {ops : Array Oper} {E : List Nat} {H : List Br} {QE : Exit → Env → World → Prop} {n : Nat} {env : Env} {w wb : World} {D : Ctx} {fuel : Nat} {listed : Array Bool}
theorem Jt (i:Nat) {o:Oper} (hX:XH ops E QE n) (hi:ops[i]?=some o) (h:XS P ops (AW P ops E H QE n fuel (listed.setIfInBounds i true)) n [o] env w) (a:Act) (hf:Fits n env a) :
 wpOp P ops (lift n QE) i (fun a' w'=>SE E H (listed.setIfInBounds i true) w'∧M5 P ops (lift n QE) (SE E H) fuel (listed.setIfInBounds i true) a' w') a w:=by
 have hd:SJ n o=true:=List.all_eq_true.1 hX.dst o (by have:=Array.mem_of_getElem? hi;simpa using this);have h:=h (by simp [hd]) a hf;have hp:∀ c a w,lift n (AW P ops E H QE n fuel (listed.setIfInBounds i true)) (.panic c) a w→lift n QE (.panic c) a w:=fun c a w ⟨env,hf,hq⟩=>⟨env,hf,hq⟩;have ho:LetsOut (lift n (AW P ops E H QE n fuel (listed.setIfInBounds i true)))→LetsOut (lift n QE):=fun ⟨a,w,env,hf,hq⟩=>hq.elim;unfold wpList at h;unfold wpOp;simp only [hi];split
 ·rename_i hw;rw [if_pos hw] at h;rcases h with h | ⟨h1,h2⟩
  ·refine .inl (upon_weaken hp ho (Oper.wp_mono (fun a' w' hn=>?_) h));simp only [wpList] at hn;obtain ⟨env',hf',hS,hx⟩:=hn;exact ⟨hS,hx a' hf'⟩
  ·exact .inr ⟨h1,ho h2⟩
 ·rename_i hw;rw [if_neg hw] at h;simp only [wpList] at h;obtain ⟨env',hf',hS,hx⟩:=h;exact ⟨hS,hx _ hf'⟩
theorem HR (i j:Nat) {d d':Option Nat} {op op':Op} {ty ty':Nat} {pos pos':String} {Am WY:Array Edge} {g g':Option (Nat × Bool)} (hX:XH ops E QE n) (hi:ops[i]?=some ⟨d,op,ty,pos,Am,g⟩:=by exact rfl) (hj:ops[j]?=some ⟨d',op',ty',pos',WY,g'⟩:=by exact rfl)
 (hr:Region.ready .any ops listed=[i,j]:=by kernel_rfl) (h1:XS P ops (AW P ops E H QE n fuel (listed.setIfInBounds i true)) n [⟨d,op,ty,pos,Am,g⟩] env w) (h2:XS P ops (AW P ops E H QE n fuel (listed.setIfInBounds j true)) n [⟨d',op',ty',pos',WY,g'⟩] env w):XA P ops E H QE n (fuel+1) listed env w:=by
 intro a hf;refine ⟨fun h0=>(by rw [h0] at hr;cases hr),fun k hk=>?_⟩;rw [hr] at hk;simp only [aCu,aC1,or_false] at hk;rcases hk with rfl | rfl
 ·exact Jt _ hX hi h1 a hf
 ·exact Jt _ hX hj h2 a hf
theorem jS (i j l:Nat) {d d' d'':Option Nat} {op op' yQ:Op} {ty ty' aAJ:Nat} {pos pos' pos'':String} {Am WY s6:Array Edge} {g g' g'':Option (Nat × Bool)} (hX:XH ops E QE n) (hi:ops[i]?=some ⟨d,op,ty,pos,Am,g⟩:=by exact rfl) (hj:ops[j]?=some ⟨d',op',ty',pos',WY,g'⟩:=by exact rfl) (hl:ops[l]?=some ⟨d'',yQ,aAJ,pos'',s6,g''⟩:=by exact rfl)
 (hr:Region.ready .any ops listed=[i,j,l]:=by kernel_rfl) (h1:XS P ops (AW P ops E H QE n fuel (listed.setIfInBounds i true)) n [⟨d,op,ty,pos,Am,g⟩] env w) (h2:XS P ops (AW P ops E H QE n fuel (listed.setIfInBounds j true)) n [⟨d',op',ty',pos',WY,g'⟩] env w)
 (h3:XS P ops (AW P ops E H QE n fuel (listed.setIfInBounds l true)) n [⟨d'',yQ,aAJ,pos'',s6,g''⟩] env w):XA P ops E H QE n (fuel+1) listed env w:=by
 intro a hf;refine ⟨fun h0=>(by rw [h0] at hr;cases hr),fun k hk=>?_⟩;rw [hr] at hk;simp only [aCu,aC1,or_false] at hk;rcases hk with rfl | rfl | rfl
 ·exact Jt _ hX hi h1 a hf
 ·exact Jt _ hX hj h2 a hf
 ·exact Jt _ hX hl h3 a hf
theorem St.perm {H':List Br} (hs:St wb D H w) (h:H'.Perm H):St wb D H' w :=
 { hs with
  at_:=fun e he=>hs.at_ e (h.mem_iff.1 he)
  nd:=(h.map _).nodup_iff.2 hs.nd
  new:=fun p hp=>hs.new p ((h.map _).mem_iff.1 hp)
  frame:=fun k h1 h2 h3=>hs.frame k h1 h2 (fun h4=>h3 ((h.map _).mem_iff.2 h4))
  ap:=fun e he h4=>hs.ap e he ((h.map _).mem_iff.1 h4) }
end
section
variable {ops : Array Oper} {QE : Exit → Env → World → Prop} {n : Nat} {rest : List Oper} {env : Env} {w wb : World} {d : Option Nat} {ty : Nat} {pos : String} {Am : Array Edge} {g : Option (Nat × Bool)}
theorem lh2 {t b off:Nat} {x:Operand} {cs:List Value} {E:TypeId} {fr:Nat × Nat} {v0 v1:Value} (hb:w.heap[b]?=some (.cells cs.toArray E fr)) (h0:cs[off]?=some v0) (h1:cs[off+1]?=some v1) (k:XS prog ops QE n rest (Bf env d (.agg #[v0,v1])) w) (hw:Ax ops env g=true:=by exact rfl) (ht:look t GY.tks=some (true,2):=by exact rfl) (hp:ev env x = .pointer (some ⟨b,off,none⟩):=by exact rfl):XS prog ops QE n (⟨d,.load t x,ty,pos,Am,g⟩ :: rest) env w :=
 have hc:Dk cs off 2 [v0,v1] := .cons h0 (.cons h1 .nil)
 xs_val hw (by simp [execOp,hp,Instr.loadAt,Instr.sureAddr,aCz,Gx (AJ.tk ht) hb hc.le,hc.eq.2]) k
end
def B6 (w:World) (e k:Nat) (v:Value) (n:Nat) (xs:List Value) (G:List Nat):Prop :=
 (v = .slice none 0 0∧n=0∧xs=[]∧G=[]) ∨
 ∃ (g cap:Nat) (cur:List Value),v = .slice (some ⟨g,0,none⟩) n cap∧G=[g]∧n≤cap∧cur.length=cap*k∧xs.length=n*k∧cur.take (n*k)=xs∧w.heap[g]?=some (.cells cur.toArray e (0,0))
section
variable {P : Program} {ops : Array Oper} {QE : Exit → Env → World → Prop} {n : Nat} {rest : List Oper} {env : Env} {w wb : World} {D : Ctx} {H : List Br} {T : MC}
 {d:Option Nat} {ty:Nat} {pos:String} {Am:Array Edge} {g:Option (Nat × Bool)}
theorem pO {t e size bytes:Nat} (hu:P.underlying t=some (.slice e)) {i:TypeInfo} (hi:P.info? e=some i) (hs1:i.size=size) (hs2:i.bytes=bytes) {z:Value} (hz:i.zero=some z) (JJ:z.cells.size=size)
 {v:Value} {k:Nat} {xs news:List Value} {a:Addr} {c m:Nat} {G:List Nat} (hO:B6 w e size v k xs G) (hl:news.length=c*size) (hc0:0 < c) (hcs:∀ (j:Nat) u,news[j]?=some u→w.cell? (a.add j)=some u) (h1:∀ u∈news,u.oneCell'=true)
 (hk:(k+c)*bytes≤140737488355328) (hk':k+c≤9223372036854775807) :
 ∃ v' w',(Builtin.append_ #[t,t] ty #[v,.slice (some a) c m]).run P w = .ok v' w'∧(∃ G',B6 w' e size v' (k+c) (xs ++ news) G'∧∀ i∈G',i∈G∨w.heap.size≤i)∧AB G w w':=by
 subst hs1 hs2
 have hcb:c*i.bytes≤281474976710656:=by
  have:=Nat.mul_le_mul_right i.bytes (show c≤k+c by omega);omega
 rcases hO with ⟨rfl,rfl,rfl,rfl⟩ | ⟨g,cap,cur,rfl,rfl,hc,U0,hxl,l6,hg⟩
 ·have hr:=run_append_nil (P:=P) w t ty e i z hu hi hz a c m news hl hcs hc0 om hcb;have hs:=(St.nil w).VK.alloc (.cells (news.toArray ++ Builtin.zeroCells z.cells (grownCap w c 0 e - c)) e);refine ⟨_,_,hr,⟨[w.heap.size],.inr ⟨w.heap.size,grownCap w c 0 e,(news.toArray ++ Builtin.zeroCells z.cells (grownCap w c 0 e - c)).toList,by rw [aDO],rfl,by rw [aDO];exact grownCap_ge w c 0 e,?_,?_,?_,hs.get At.head⟩,by simp⟩,hs.AE rfl⟩
  ·have:=grownCap_ge w c 0 e;simp only [aDl,aCv,Lt,JJ,hl];rw [← aDH];congr 1;omega
  ·rw [aDO,aDV,hl]
  ·rw [aDV,aDO,aDl,aD3 (by simp [hl])];exact aDM (by simp [hl])
 ·have hs0:=(St.nil w).AH hg AA;by_cases hroom:k+c≤cap
  ·have hfit:k*i.size+news.length≤cur.toArray.size:=by
    rw [hl,List.size_toArray,U0,← aDH];exact Nat.mul_le_mul_right _ hroom
   have hr:=run_append_room (P:=P) w t ty e i hu hi g k cap cur.toArray hg a c m news hl hcs h1 hroom hfit;simp only [List.size_toArray] at hfit;have hs:=hs0.row At.head (cur.take (k*i.size) ++ news ++ cur.drop (k*i.size+news.length)).toArray;refine ⟨_,_,hr,⟨[g],.inr ⟨g,cap,(cur.take (k*i.size) ++ news ++ cur.drop (k*i.size+news.length)),rfl,rfl,hroom,?_,?_,?_,hs.get At.head⟩,by simp⟩,hs.AD [g] AA sD⟩
   ·simp only [aCv,aDg,List.length_drop];omega
   ·rw [aCv,hxl,hl,aDH]
   ·rw [aDQ,← aDQ,l6,aD3 (by rw [aCv,hxl,hl,aDH];exact aC5 _)];exact aDM (by rw [aCv,hxl,hl,aDH];exact aC5 _)
  ·have hold:∀ (j:Nat) u,xs[j]?=some u→w.cell? ((⟨g,0,none⟩:Addr).add j)=some u:=fun j u hj=>by
    rw [Em];rw [← l6,aDz] at hj;split at hj
    ·simp [World.cell?,hg,hj]
    ·cases hj
   have hr:=run_append_grow (P:=P) w t ty e i z hu hi hz ⟨g,0,none⟩ k cap xs hxl hold a c m news hl hcs om om (growslice_fits om hk);have hge:=grownCap_ge w (k+c) cap e;have hs:=hs0.VK.alloc (.cells (xs.toArray ++ news.toArray ++ Builtin.zeroCells z.cells (grownCap w (k+c) cap e - (k+c))) e);refine ⟨_,_,hr,⟨[w.heap.size],.inr ⟨w.heap.size,grownCap w (k+c) cap e,(xs.toArray ++ news.toArray ++ Builtin.zeroCells z.cells (grownCap w (k+c) cap e - (k+c))).toList,rfl,rfl,hge,?_,?_,?_,hs.get At.head⟩,by simp⟩,hs.AD [g] AA sD⟩
   ·simp only [aDl,aCv,Lt,JJ,hl,hxl];rw [← aDH,← aDH];congr 1;omega
   ·rw [aCv,hxl,hl,aDH]
   ·rw [aDl,aDl,aD3 (by simp [hxl,hl,aDH])];exact aDM (by simp [hxl,hl,aDH])
theorem CF (hT:Be P T) {t e size bytes:Nat} {zs news:List Value} {x y:Operand} {v:Value} {k c m:Nat} {a:Addr} {xs:List Value} {G:List Nat} (hw:Ax ops env g=true) (Co:look t T.sls=some (e,size,bytes)) (hz:look e T.zs=some zs) (hzl:Nat.beq zs.length size=true)
 (hx:ev env x=v) (hy:ev env y = .slice (some a) c m) (hl:news.length=c*size) (hc0:0 < c) (hcs:∀ (j:Nat) u,news[j]?=some u→w.cell? (a.add j)=some u) (h1:∀ u∈news,u.oneCell'=true) (hO:B6 w e size v k xs G)
 (hk:(k+c)*bytes≤140737488355328) (hk':k+c≤9223372036854775807) (kk:∀ v' w',(∃ G',B6 w' e size v' (k+c) (xs ++ news) G'∧∀ i∈G',i∈G∨w.heap.size≤i)→AB G w w'→XS P ops QE n rest (Bf env d v') w') :
 XS P ops QE n (⟨d,.call { callee := .builtin .append,args:=#[x,y],argTypes:=#[t,t] },ty,pos,Am,g⟩ :: rest) env w:=by
 obtain ⟨hu,i,hi,hs1,hs2⟩:=GL (hT.sl Co);obtain ⟨i',z,hi',PT,JJ⟩:=Pc (hT.z hz);rw [hi] at hi';cases hi';obtain ⟨v',w',hr,h2,h3⟩:=pO (P:=P) (ty:=ty) (m:=m) hu hi hs1 hs2 PT (by rw [JJ];simpa using aDT hzl) hO hl hc0 hcs h1 hk hk';refine XS.value hw (v:=v') (w':=w') ?_ (kk v' w' h2 h3);simp [execOp,resolve,aCz,invoke,builtin,hx,hy,hr]
end
theorem B6.lt {w:World} {e k n:Nat} {v:Value} {xs:List Value} {G:List Nat} (h:B6 w e k v n xs G):∀ b∈G,b < w.heap.size:=by
 rcases h with ⟨_,_,_,rfl⟩ | ⟨g,cap,cur,_,rfl,_,_,_,_,hg⟩
 ·intro b hb;cases hb
 ·intro b hb;obtain rfl:=List.mem_singleton.1 hb;exact lt_of_block hg
theorem B6.keep {w w':World} {e k n:Nat} {v:Value} {xs:List Value} {G F:List Nat} (h:B6 w e k v n xs G) (ho:AB F w w') (hd:∀ b∈G,b∉F):B6 w' e k v n xs G:=by
 rcases h with ⟨h1,h2,h3,h4⟩ | ⟨g,cap,cur,h1,rfl,h3,h4,h5,h6,hg⟩
 ·exact .inl ⟨h1,h2,h3,h4⟩
 ·exact .inr ⟨g,cap,cur,h1,rfl,h3,h4,h5,h6,ho.block hg (hd g aCw)⟩
section
variable {P : Program} {ops : Array Oper} {E : List Nat} {H HH : List Br} {QE : Exit → Env → World → Prop} {n : Nat} {env : Env} {w wb : World} {D : Ctx} {fuel : Nat} {T : MC}
theorem St.TE {b:Nat} {o:Obj} {w':World} (hs:St wb D H w) (ho:AB [] w w') (hb:w'.heap[b]?=some o) (hz:w.heap.size≤b):St wb D ((b,o,true) :: H) w':=by
 have h:=hs.AP ho;have hlt:∀ {k:Nat} {o':Obj},w.heap[k]?=some o'→k≠b:=fun hk e=>by have:=lt_of_block hk;omega
 refine ⟨fun e he=>?_,?_,fun p hp hq=>?_,h.os,h.tape,h.output,h.size,fun k hk hd hm=>?_,h.ro,fun e he hm=>?_⟩
 ·rcases aCu.1 he with rfl | he
  ·exact hb
  ·exact h.at_ e he
 ·rw [aC2,aC6];refine ⟨fun hm=>?_,h.nd⟩;obtain ⟨e,he,h1⟩:=List.mem_map.1 hm;exact hlt (hs.at_ e he) h1
 ·rw [aC2,aCu] at hp;rcases hp with rfl | hp
  ·exact aC9 hs.size hz
  ·exact h.new p hp hq
 ·rw [aC2,aCu,not_or] at hm;exact h.frame k hk hd hm.2
 ·rw [aC2,aCu] at hm;rcases hm with hm | hm
  ·exact hlt (hs.ro e he) hm
  ·exact h.ap e he hm
def s5 (I:World→Prop):Prop:=∀ w w',AB [] w w'→I w→I w'
def Kp (wb:World) (D:Ctx) (H:List Br) (o:Obj) (Y:Nat→Value):Bool→Value→World→Prop
 | false,_,w=>St wb D H w
 | true,X,w=>∃ b,X=Y b∧St wb D ((b,o,true) :: H) w
structure Et (wb:World) (D:Ctx) (H:List Br) (o:Obj) (Y:Nat→Value) (I:World→Prop) (f:Bool) (X:Value) (w:World):Prop where
 core:Kp wb D H o Y f X w
 inv:I w
 lasts:s5 I
theorem Kp.st {o:Obj} {Y:Nat→Value}:∀ {f:Bool} {X:Value},Kp wb D H o Y f X w→St wb D H w
 | false,_,h=>h
 | true,_,⟨_,_,h⟩=>h.Bx
theorem Et.st {o:Obj} {Y:Nat→Value} {I:World→Prop} {f:Bool} {X:Value} (h:Et wb D H o Y I f X w):St wb D H w:=h.core.st
theorem Kp.only {o:Obj} {Y:Nat→Value} {w':World} (ho:AB [] w w'):∀ {f:Bool} {X:Value},Kp wb D H o Y f X w→Kp wb D H o Y f X w'
 | false,_,h=>St.AP h ho
 | true,_,⟨b,e,h⟩=>⟨b,e,h.AP ho⟩
theorem Et.only {o:Obj} {Y:Nat→Value} {I:World→Prop} {f:Bool} {X:Value} {w':World} (h:Et wb D H o Y I f X w) (ho:AB [] w w'):Et wb D H o Y I f X w':=⟨h.core.only ho,h.lasts _ _ ho h.inv,h.lasts⟩
theorem Kp.call {o:Obj} {Y:Nat→Value} {w':World} {F:List Nat} (ho:AB F w w') (hl:∀ k∈F,k < wb.heap.size) (hF:∀ k∈F,k∉H.map (·.1)) (hR:∀ k∈F,k∉D.ro.map (·.1)):∀ {f:Bool} {X:Value},Kp wb D H o Y f X w→Kp wb ⟨F ++ D.dirty,D.ro⟩ H o Y f X w'
 | false,_,h=>St.call h ho hF hR
 | true,_,⟨b,e,h⟩=>⟨b,e,h.call ho (fun k hk hm=>by
  simp only [aC2,aCu] at hm;rcases hm with rfl | hm
  ·have:=h.new (k,true) AA rfl;have:=hl k hk;simp only at *;omega
  ·exact hF k hk hm) hR⟩
theorem Et.TE {o o':Obj} {Y:Nat→Value} {I:World→Prop} {w':World} {b':Nat} (ho:AB [] w w') (hb:w'.heap[b']?=some o') (hz:w.heap.size≤b'):∀ {f:Bool} {X:Value},Et wb D H o Y I f X w→Et wb D ((b',o',true) :: H) o Y I f X w'
 | false,_,⟨h,h1,h2⟩=>⟨St.TE h ho hb hz,h2 _ _ ho h1,h2⟩
 | true,_,⟨⟨b,e,h⟩,h1,h2⟩=>⟨⟨b,e,(h.TE ho hb hz).perm (List.Perm.swap _ _ _)⟩,h2 _ _ ho h1,h2⟩
def fl (f:Bool):Nat:=bif f then 0 else 1
def SS (P:Program) (ops:Array Oper) (n:Nat) (o:Obj) (Y:Nat→Value) (d:Nat) (oa:Oper) (g:Value→Env):Prop :=
 ∀ (QE:Exit→Env→World→Prop) (X:Value) (w:World),(∀ b w',AB [] w w'→w'.heap[b]?=some o→w.heap.size≤b→QE .normal (upd (g X) d (Y b)) w')→XS P ops QE n [oa] (g X) w
theorem AT (hT:Be P T) {t d ty:Nat} {pos:String} {Am:Array Edge} {cs:List Value} {g:Value→Env} (hz:look t T.zs=some cs) :
 SS P ops n (.cells cs.toArray t (0,0)) (fun b => .pointer (some ⟨b,0,none⟩)) d ⟨some d,.alloc t,ty,pos,Am,none⟩ g:=fun QE X w k =>
 xs_alloc hT hz rfl (St.nil w) fun b w' _ hs'=>XS.nil (k b w' (hs'.AE rfl) (hs'.get At.head) (hs'.new (b,true) AA rfl))
theorem EL (hT:Be P T) {t e size bytes len d ty:Nat} {pos:String} {Am:Array Edge} {parts:Array (Nat × Operand)} {zs cs:List Value} {g:Value→Env} (Co:look t T.sls=some (e,size,bytes)) (hz:look e T.zs=some zs) (hzl:Nat.beq zs.length size=true) (PA:Nat.ble (len*size) 16777216=true) (hps:Nat.beq (len*size) 0=false)
 (hb:∀ X,CZ (g X) (Ni len size) (Ra zs (len*size)) parts.toList cs) :
 SS P ops n (.cells cs.toArray e (0,0)) (fun b => .slice (some ⟨b,0,none⟩) len len) d ⟨some d,.buildSlice t len parts,ty,pos,Am,none⟩ g:=fun QE X w k =>
 IQ hT rfl Co hz hzl PA hps (hb X) (St.nil w) fun b w' _ hs'=>XS.nil (k b w' (hs'.AE rfl) (hs'.get At.head) (hs'.new (b,true) AA rfl))
theorem Uj {a d:Nat} {oa:Oper} {o:Obj} {Y:Nat→Value} {I:World→Prop} {m:Nat} {listed:Array Bool} {g:Value→Env} {X Z:Value} (hM:SS P ops n o Y d oa g) (hp:Et wb D H o Y I false Z w)
 (hS:∀ w',St wb D H w'→SE E HH (listed.setIfInBounds a true) w')
 (k:∀ b w',I w'→St wb D ((b,o,true) :: H) w'→XA P ops E HH QE n m (listed.setIfInBounds a true) (upd (g X) d (Y b)) w') :
 XS P ops (AW P ops E HH QE n m (listed.setIfInBounds a true)) n [oa] (g X) w :=
 hM _ X w fun b w' ho hb hz=>⟨hS _ (St.AP hp.core ho),k b w' (hp.lasts _ _ ho hp.inv) (St.TE hp.core ho hb hz)⟩
theorem BI (c a:Nat) {d ta:Nat} {Yw:Op} {T5:String} {Tc:Array Edge} {dc:Option Nat} {opc:Op} {tyc:Nat} {aAB:String} {yA:Array Edge} {gc:Option (Nat × Bool)} {o:Obj} {Y:Nat→Value} {I:World→Prop} {g:Value→Env} {L:Bool→Array Bool} {f:Bool} {X:Value}
 (hX:XH ops E QE n) (hp:Et wb D H o Y I f X w) (ha:ops[a]?=some ⟨some d,Yw,ta,T5,Tc,none⟩) (hc:ops[c]?=some ⟨dc,opc,tyc,aAB,yA,gc⟩)
 (hM:SS P ops n o Y d ⟨some d,Yw,ta,T5,Tc,none⟩ g)
 (hL:(L false).setIfInBounds a true=L true) (Mq:Region.ready .any ops (L true)=[c]) (Hj:(Region.ready .any ops (L false)).all (fun i=>Nat.beq i c || Nat.beq i a)=true) (yM:(Region.ready .any ops (L false)).isEmpty=false)
 (hg:∀ X Y,upd (g X) d Y=g Y) (hS:∀ w',St wb D H w'→SE E HH (L true) w')
 (step:∀ f X w,Et wb D H o Y I f X w→XS P ops (AW P ops E HH QE n (fl f+fuel) ((L f).setIfInBounds c true)) n [⟨dc,opc,tyc,aAB,yA,gc⟩] (g X) w) :
 XA P ops E HH QE n (fl f+(fuel+1)) (L f) (g X) w:=by
 have h1:∀ X w,Et wb D H o Y I true X w→XA P ops E HH QE n (fuel+1) (L true) (g X) w:=fun X w hp=>by
  have:=step true X w hp;simp only [fl,cond_true,aDO] at this;exact aD c hX hc Mq this
 cases f with
 | true=>simpa [fl] using h1 X w hp
 | false =>
   have e1:fl false+(fuel+1)=(fuel+1)+1:=by simp [fl];omega
   rw [e1];intro act hf;refine ⟨fun h0=>(by rw [h0] at yM;cases yM),fun i hi=>?_⟩;have hi':=List.all_eq_true.1 Hj i hi;simp only [Bool.or_eq_true] at hi';rcases hi' with hi' | hi'
   ·obtain rfl:i=c:=aDT hi';have h2:=step false X w hp;have e2:fl false+fuel=fuel+1:=by simp [fl];omega
    rw [e2] at h2;exact Jt i hX hc h2 act hf
   ·obtain rfl:i=a:=aDT hi'
    have h2:XS P ops (AW P ops E HH QE n (fuel+1) ((L false).setIfInBounds i true)) n [⟨some d,Yw,ta,T5,Tc,none⟩] (g X) w:=by
     refine Uj hM hp (by rw [hL];exact hS) fun b w' hI hs'=>?_;rw [hL,hg];exact h1 _ w' ⟨⟨b,rfl,hs'⟩,hI,hp.lasts⟩
    exact Jt i hX ha h2 act hf
theorem Bb (a:Nat) {d ta:Nat} {Yw:Op} {T5:String} {Tc:Array Edge} {o:Obj} {Y:Nat→Value} {I:World→Prop} {g:Value→Env} {L:Bool→Array Bool} {f:Bool} {X:Value}
 (hX:XH ops E QE n) (hp:Et wb D H o Y I f X w) (ha:ops[a]?=some ⟨some d,Yw,ta,T5,Tc,none⟩)
 (hM:SS P ops n o Y d ⟨some d,Yw,ta,T5,Tc,none⟩ g)
 (hL:(L false).setIfInBounds a true=L true) (Hj:Region.ready .any ops (L false)=[a])
 (hg:∀ X Y,upd (g X) d Y=g Y) (hS:∀ w',St wb D H w'→SE E HH (L true) w')
 (k:∀ b w',I w'→St wb D ((b,o,true) :: H) w'→XA P ops E HH QE n fuel (L true) (g (Y b)) w') :
 XA P ops E HH QE n (fl f+fuel) (L f) (g X) w:=by
 cases f with
 | true =>
   obtain ⟨⟨b,rfl,hs⟩,hI,_⟩:=hp;have:=k b w hI hs;simpa [fl] using this
 | false =>
   have e1:fl false+fuel=fuel+1:=by simp [fl];omega
   rw [e1];refine aD a hX ha Hj ?_;refine Uj hM hp (by rw [hL];exact hS) fun b w' hI hs'=>?_;rw [hL,hg];exact k b w' hI hs'
theorem X6 (a d:Nat) (o:Obj) (Y:Nat→Value) {listed:Array Bool} (hs:St wb D H w) (hl:listed.setIfInBounds a false=listed)
 (k:∀ f X w,Et wb D H o Y (fun _=>True) f X w→XA P ops E HH QE n (fl f+fuel) (listed.setIfInBounds a f) (upd env d X) w):XA P ops E HH QE n (fuel+1) listed env w:=by
 have h:=k false (env d) w ⟨hs,trivial,fun _ _ _ _=>trivial⟩;have e1:fl false+fuel=fuel+1:=by simp [fl];omega
 have e2:upd env d (env d)=env:=funext fun i=>by
  by_cases e:i=d
  ·subst e;rw [Ep]
  ·rw [FN _ _ e]
 rwa [e1,hl,e2] at h
end
section
variable {ops : Array Oper} {E : List Nat} {H HH : List Br} {QE : Exit → Env → World → Prop} {n : Nat} {env : Env} {w wb : World} {D : Ctx} {fuel : Nat}
theorem A4 {d:Nat} {X Y:Value}:upd (upd env d X) d Y=upd env d Y:=funext fun i=>by
 by_cases h:i=d
 ·subst h;rw [Ep,Ep]
 ·rw [FN _ _ h,FN _ _ h,FN _ _ h]
theorem A5 {d t:Nat} {v Y:Value} {e1 e2:Env} (h:upd e1 d Y=e2) (hne:Nat.beq t d=false):upd (upd e1 t v) d Y=upd e2 t v:=funext fun i=>by
 have hne:t≠d:=fun e=>by rw [e,Nat.beq_refl] at hne;cases hne
 have h':=congrFun h i;by_cases hi:i=d
 ·subst hi;rw [Ep] at h' ⊢;rw [FN _ _ (Ne.symm hne),← h']
 ·rw [FN _ _ hi] at h' ⊢;by_cases ht:i=t
  ·subst ht;rw [Ep,Ep]
  ·rw [FN _ _ ht,FN _ _ ht,h']
theorem Gq (a d:Nat) {cs:List Value} {t ty:Nat} {pos:String} {Am:Array Edge} {listed:Array Bool} (hs:St wb D H w) (k:∀ f X w,Et wb D H (.cells cs.toArray t (0,0)) (fun b => .pointer (some ⟨b,0,none⟩)) (fun _=>True) f X w→XA prog ops E HH QE n (fl f+fuel) (listed.setIfInBounds a f) (upd env d X) w) (ha:ops[a]?=some ⟨some d,.alloc t,ty,pos,Am,none⟩:=by exact rfl) (hz:look t GY.zs=some cs:=by exact rfl) (hl:listed.setIfInBounds a false=listed:=by kernel_rfl):XA prog ops E HH QE n (fuel+1) listed env w:=X6 a d _ _ hs hl k
theorem pX (a d:Nat) (cs:List Value) {t e size bytes len ty:Nat} {parts:Array (Nat × Operand)} {pos:String} {Am:Array Edge} {listed:Array Bool} (hs:St wb D H w) (k:∀ f X w,Et wb D H (.cells cs.toArray e (0,0)) (fun b => .slice (some ⟨b,0,none⟩) len len) (fun _=>True) f X w→XA prog ops E HH QE n (fl f+fuel) (listed.setIfInBounds a f) (upd env d X) w) (ha:ops[a]?=some ⟨some d,.buildSlice t len parts,ty,pos,Am,none⟩:=by exact rfl) (Co:look t GY.sls=some (e,size,bytes):=by exact rfl) (hl:listed.setIfInBounds a false=listed:=by kernel_rfl):XA prog ops E HH QE n (fuel+1) listed env w:=X6 a d _ _ hs hl k
theorem wN {o:Obj} {Y:Nat→Value} {I:World→Prop} {f:Bool} {X:Value} {rest:List Oper} {d:Option Nat} {ty:Nat} {pos:String} {Am:Array Edge} {g:Option (Nat × Bool)} {t e size bytes len:Nat} {parts:Array (Nat × Operand)} {zs cs:List Value} (hp:Et wb D H o Y I f X w) (k:∀ b w',AB [] w w'→Et wb D ((b,.cells cs.toArray e,true) :: H) o Y I f X w'→XS prog ops QE n rest (Bf env d (.slice (some ⟨b,0,none⟩) len len)) w') (hw:Ax ops env g=true:=by exact rfl) (Co:look t GY.sls=some (e,size,bytes):=by exact rfl) (hz:look e GY.zs=some zs:=by exact rfl) (hzl:Nat.beq zs.length size=true:=by exact rfl) (PA:Nat.ble (len*size) 16777216=true:=by exact rfl) (hps:Nat.beq (len*size) 0=false:=by exact rfl) (hb:CZ env (Ni len size) (Ra zs (len*size)) parts.toList cs:=by (repeat (first | exact CZ.nil | (apply CZ.one;exact rfl;(conv=>lhs;whnf);exact rfl;(repeat (first | exact Ak.nil | apply Ak.skip | apply Ak.cons))) | (apply CZ.agg;exact rfl;exact rfl;exact rfl;(repeat (first | exact Ak.nil | apply Ak.skip | apply Ak.cons)))))):XS prog ops QE n (⟨d,.buildSlice t len parts,ty,pos,Am,g⟩ :: rest) env w :=
 IQ AJ hw Co hz hzl PA hps hb (St.nil w) fun b w' _ h=>k b w' (h.AE rfl) (hp.TE (h.AE rfl) (h.get At.head) (h.new (b,true) AA rfl))
theorem St.fresh (hs:St wb D H w) (hall:(H.all fun e=>e.2.2)=true) {k:Nat} (hk:k < wb.heap.size):k∉H.map (·.1):=fun hm=>by
 obtain ⟨e,he,rfl⟩:=List.mem_map.1 hm;have h1:=List.all_eq_true.1 hall e he;have:=hs.new (e.1,e.2.2) (List.mem_map.2 ⟨e,he,rfl⟩) h1;simp only at this;omega
theorem Et.dW {o:Obj} {Y:Nat→Value} {I J:World→Prop} {w':World} {F:List Nat} {f:Bool} {X:Value} (hp:Et wb D H o Y I f X w) (ho:AB F w w') (hl:∀ k∈F,k < wb.heap.size) (hall:(H.all fun e=>e.2.2)=true) (hR:D.ro=[]) (hJ:J w') (lJ:s5 J):Et wb ⟨F ++ D.dirty,D.ro⟩ H o Y J f X w' :=
 ⟨hp.core.call ho hl (fun k hk=>hp.st.fresh hall (hl k hk)) (by simp [hR]),hJ,lJ⟩
theorem St.dW {w':World} {F:List Nat} (hs:St wb D H w) (ho:AB F w w') (hl:∀ k∈F,k < wb.heap.size) (hall:(H.all fun e=>e.2.2)=true) (hR:D.ro=[]):St wb ⟨F ++ D.dirty,D.ro⟩ H w' :=
 hs.call ho (fun k hk=>hs.fresh hall (hl k hk)) (by simp [hR])
end
def Cu (w:World) (E k:Nat) (v:Value) (xs:List (List Value)):Prop :=
 ∃ ad cap,v = .slice ad xs.length cap∧(xs≠[]→∃ (b off:Nat) (cs:List Value) (fz:Nat × Nat),ad=some ⟨b,off,none⟩∧xs.length≤cap∧w.heap[b]?=some (.cells cs.toArray E fz)∧∀ (i:Nat) x,xs[i]?=some x→Dk cs (off+i*k) k x)
theorem Cu.nil (w:World) (E k:Nat):Cu w E k (.slice none 0 0) []:=⟨none,0,rfl,fun h=>absurd rfl h⟩
theorem Cu.keep {w w':World} {E k:Nat} {v:Value} {xs:List (List Value)} {F:List Nat} (h:Cu w E k v xs) (ho:AB F w w') (hF:∀ b∈F,∀ cs fz,w.heap[b]?≠some (.cells cs E fz)):Cu w' E k v xs:=by
 obtain ⟨ad,cap,rfl,h⟩:=h;refine ⟨ad,cap,rfl,fun hn=>?_⟩;obtain ⟨b,off,cs,fz,h1,h2,h3,h4⟩:=h hn;exact ⟨b,off,cs,fz,h1,h2,ho.block h3 (fun hm=>hF b hm _ _ h3),h4⟩
theorem Cu.only {w w':World} {E k:Nat} {v:Value} {xs:List (List Value)} (h:Cu w E k v xs) (ho:AB [] w w'):Cu w' E k v xs:=h.keep ho AA
theorem pick_of {cs:List Value}:∀ {vs:List Value} {off m:Nat},vs.length=m→(cs.drop off).take m=vs→Dk cs off m vs
 | [],off,m,hm,h=>by subst hm;exact .nil
 | v :: vs,off,m,hm,h=>by
   subst hm
   have hlt:off < cs.length:=by
    rcases aDL off cs.length with h' | h'
    ·exact h'
    ·rw [List.drop_eq_nil_of_le h'] at h;simp at h
   rw [aD0 hlt] at h;simp only [aCx,List.take_succ_cons,List.cons.injEq] at h;exact .cons (by rw [aC3 hlt,h.1]) (pick_of rfl h.2)
theorem Rf {k:Nat}:∀ {xs:List (List Value)} {i:Nat} {x:List Value},(∀ y∈xs,y.length=k)→xs[i]?=some x→(xs.flatten.drop (i*k)).take k=x
 | [],i,x,_,h=>by simp at h
 | y :: xs,0,x,hk,h=>by
   have h1:=hk y AA;simp only [List.getElem?_cons_zero,aDd] at h;subst h;subst h1;simp
 | y :: xs,i+1,x,hk,h=>by
   have h1:=hk y AA;simp only [List.getElem?_cons_succ] at h;have ih:=Rf (fun z hz=>hk z (aCy _ hz)) h;rw [List.flatten_cons,List.drop_append,List.drop_eq_nil_of_le (by rw [h1,Nat.succ_mul];omega),aDV,h1,Nat.succ_mul,Nat.add_sub_cancel];exact ih
theorem B6.ls {w:World} {E k n:Nat} {v:Value} {flat:List Value} {G:List Nat} (h:B6 w E k v n flat G) {xs:List (List Value)} (hf:flat=xs.flatten) (hn:n=xs.length) (hk:∀ x∈xs,x.length=k):Cu w E k v xs:=by
 subst hn;rcases h with ⟨rfl,h0,hx,_⟩ | ⟨g,cap,cur,rfl,_,hc,hl,hxl,ht,hg⟩
 ·have:xs=[]:=by simpa using h0
  subst this;exact Cu.nil w E k
 ·refine ⟨_,cap,rfl,fun _=>⟨g,0,cur,(0,0),rfl,hc,hg,fun i x hi=>?_⟩⟩
  have hi':i < xs.length:=by
   rcases aDL i xs.length with h | h
   ·exact h
   ·rw [aDY h] at hi;cases hi
  have rX:=hk x (aDJ hi);refine pick_of rX ?_;have e:=Rf hk hi;rw [← hf,← ht,List.drop_take,List.take_take,Nat.min_eq_left] at e
  ·rw [aDO];exact e
  ·rw [← Nat.sub_mul];exact Nat.le_mul_of_pos_left k om
def IX:List Int→Int
 | []=>0
 | d :: l=>l.foldl (fun a b=>if b < a then b else a) d
def I3:List Int→Int
 | []=>0
 | d :: l=>l.foldl (fun a b=>if b > a then b else a) d
theorem jB (l:List Int) (d:Int):IX (l ++ [d])=if l=[] then d else if d < IX l then d else IX l:=by
 cases l with
 | nil=>rfl
 | cons a l=>exact (aDh ..)
theorem iL (l:List Int) (d:Int):I3 (l ++ [d])=if l=[] then d else if d > I3 l then d else I3 l:=by
 cases l with
 | nil=>rfl
 | cons a l=>exact (aDh ..)
section
variable {ops : Array Oper} {QE : Exit → Env → World → Prop} {n : Nat} {rest : List Oper} {env : Env} {w wb : World} {d : Option Nat} {ty : Nat} {pos : String} {Am : Array Edge} {g : Option (Nat × Bool)}
theorem Ia {t b off m:Nat} {x:Operand} {cs vs:List Value} {E:TypeId} {fr:Nat × Nat} (hb:w.heap[b]?=some (.cells cs.toArray E fr)) (hc:Dk cs off (m+1) vs) (k:XS prog ops QE n rest (Bf env d (.agg vs.toArray)) w) (hw:Ax ops env g=true:=by exact rfl) (ht:look t GY.tks=some (true,m+1):=by exact rfl) (hp:ev env x = .pointer (some ⟨b,off,none⟩):=by exact rfl):XS prog ops QE n (⟨d,.load t x,ty,pos,Am,g⟩ :: rest) env w :=
 xs_val hw (by simp [execOp,hp,Instr.loadAt,Instr.sureAddr,aCz,Gx (AJ.tk ht) hb hc.le,hc.eq.2]) k
end
end Go.Proofs.Q0
namespace Go.Proofs.Q0
open Go Go.RowKit Tryz
attribute [local irreducible] XS XC XA AY AR A9 A1 A0 Aa Ae AW SE
theorem Yp (x:Int):x=x / 4294967296*4294967296+x % 4294967296:=by omega
theorem HK {a b m:Int} (ha:0≤a) (fU:a≤m) (hb:0≤b) (hb':b≤m):0≤a*b∧a*b≤m*m :=
 ⟨aDm ha hb,Int.mul_le_mul fU hb' hb (Int.le_trans ha fU)⟩
theorem RI {a b c d:Int} (h1:a=c) (h2:b=d):packed [Value.int .u64 a,.int .u64 b] = .tuple #[.int .u64 c,.int .u64 d]:=by rw [h1,h2];rfl
theorem Oe (x y:Int) (hx0:0≤x) (hx1:x < 18446744073709551616) (hy0:0≤y) (hy1:y < 18446744073709551616) (w0:World) :
 AO prog 186 #[.int .u64 x,.int .u64 y] w0 fun v w'=>v = .tuple #[.int .u64 (x*y / 18446744073709551616),.int .u64 (x*y % 18446744073709551616)]∧AB [] w0 w':=by
 have hs:=St.nil w0;refine AS func186 ntmps186 ?_;refine Ja ?_;refine AG ?_;refine ⟨?_,hs.AE rfl⟩;clear hs;have h1:=Yp x;have h2:=Yp y;have a0:=aDe x (show (4294967296:Int)≠0 by decide);have a0':=aDi x (show (0:Int) < 4294967296 by decide);have b0:=aDe y (show (4294967296:Int)≠0 by decide);have b0':=aDi y (show (0:Int) < 4294967296 by decide);have a1:0≤x / 4294967296∧x / 4294967296≤4294967295:=by omega
 have b1:0≤y / 4294967296∧y / 4294967296≤4294967295:=by omega
 simp only [wrap_u64];generalize x / 4294967296=p at *;generalize x % 4294967296=q at *;generalize y / 4294967296=r at *;generalize y % 4294967296=s at *;have key:x*y=p*r*18446744073709551616+(p*s+q*r)*4294967296+q*s:=by grind
 have k1:=HK a1.1 a1.2 b1.1 b1.2;have k2:=HK a1.1 a1.2 b0 (show s≤4294967295 by omega);have k3:=HK a0 (show q≤4294967295 by omega) b1.1 b1.2;have k4:=HK a0 (show q≤4294967295 by omega) b0 (show s≤4294967295 by omega);generalize x*y=z at *;generalize p*r=e1 at *;generalize p*s=e2 at *;generalize q*r=e3 at *;generalize q*s=e4 at *;clear h1 h2 a0 a0' b0 b0' a1 b1 hx0 hx1 hy0 hy1;refine RI ?_ ?_ <;> omega
def sgn (s:Int):Int:=if s < 170141183460469231731687303715884105728 then s else s - 340282366920938463463374607431768211456
theorem sgn_in {s:Int} (h0:0≤s) (h1:s < 340282366920938463463374607431768211456):Ac (sgn s):=by unfold sgn Ac;split <;> omega
theorem agg_sgn {s hi lo:Int} (h0:0≤s) (h1:s < 340282366920938463463374607431768211456) (h2:hi=s / 18446744073709551616) (h3:lo=s % 18446744073709551616):Value.agg #[.int .i64 (IntKind.i64.wrap hi),.int .u64 lo]=wv (sgn s):=by
 subst h2 h3;simp only [wrap_i64];unfold sgn;split <;> refine agg_ok ?_ ?_ <;> omega
theorem TR {v:Value} {x:Int} (hv:v=wv x) (hx:Ac x) (w0:World):AO prog 127 #[v] w0 fun v w'=>v=wv (OE x)∧AB [] w0 w':=by subst hv;exact Qu x hx w0
theorem aM (s:Int) (h0:0≤s) (h1:s < 340282366920938463463374607431768211456) (neg:Bool) (w0:World) :
 AO prog 187 #[.int .u64 (s / 18446744073709551616),.int .u64 (s % 18446744073709551616),.bool neg] w0 fun v w'=>v=EW (bif neg then -s else s)∧AB [] w0 w':=by
 have hs:=St.nil w0;cases neg
 ·refine AS func187 ntmps187 ?_
  repeat' (first|refine vs ?_|refine ps ?_|refine Aq ?_|refine Nx.h ?_|refine Eb ?_|(refine AV hs ?_;intro w hs)|(refine al hs ?_;intro b w hz hs)|refine Aw rfl (fun hc=>?_) fun hc=>?_|fail)
  all_goals (refine AG ?_)
  all_goals refine ⟨?_,hs.AE rfl⟩
  all_goals clear hs
  all_goals simp only [wrap_i64,cond_false]
  ·refine KA ?_ ?_ ?_
   all_goals (try unfold Ac)
   all_goals omega
  ·refine Jp ?_;unfold Ac;omega
 ·refine AS func187 ntmps187 ?_
  repeat' (first|refine vs ?_|refine ps ?_|refine Aq ?_|refine Nx.h ?_|refine FP ?_|refine Eb ?_|(refine AV hs ?_;intro w hs)|(refine al hs ?_;intro b w hz hs)|((with_reducible apply BV);exact rfl;exact rfl;intro c hc;(fail_if_success have:true=c:=hc);(fail_if_success have:false=c:=hc);cases c)|refine Aw rfl (fun hc=>?_) fun hc=>?_|fail)
  all_goals try ((with_reducible apply Kz);exact rfl;exact rfl;exact TR (agg_sgn h0 h1 rfl rfl) (sgn_in h0 h1) _;rintro v w' ⟨rfl,ho⟩;replace hs:=hs.AP ho;repeat' (first|refine Sb ?_|(refine AV hs ?_;intro w hs)|fail))
  all_goals (refine AG ?_)
  all_goals refine ⟨?_,hs.AE rfl⟩
  all_goals clear hs
  all_goals simp only [cond_true,OE,sgn]
  all_goals simp at *
  all_goals first
   | (refine Jp ?_;unfold Ac;omega)
   | (refine KA ?_ ?_ ?_ <;> (try unfold Ac) <;> (try split) <;> (try split) <;> omega)
theorem TL (x y:Int) (hx:Ac x) (hy:Ac y) (w0:World):AO prog 140 #[wv x,wv y] w0 fun v w'=>v = .int .i64 (C1 x y)∧AB [] w0 w':=by
 obtain ⟨hx1,hx2⟩:=hx;obtain ⟨hy1,hy2⟩:=hy;have hs:=St.nil w0;refine AS func140 ntmps140 ?_
 repeat' (first|refine Sa ?_|(refine bx hs ?_;intro b w hz hs)|fail)
 refine dr [] hs ?_;intro hX w hs;refine tks 0 4 ?_;refine tks 5 4 ?_;refine dt 4 hX ?_;refine AZ hs (h:=by exact PF _ _ _) ?_;intro w' ho hs;refine Jn ?_;refine dt 9 hX ?_;refine AZ hs (h:=by exact OT _ _ _) ?_;intro w' ho hs;refine Jn ?_;refine dt 10 hX ?_
 repeat' (first|refine Nx.h ?_|(refine bs hs ?_;intro b w hz hs)|fail)
 refine dn ?_;refine dt 11 hX ?_;refine AZ hs (h:=by exact dZ _ _ _ _ _ (hs.get At.head)) ?_;intro w' ho hs;refine Jn ?_;refine tk 12 hX ?_;refine en ?_;refine Jb ?_;refine AG ?_;refine ⟨?_,hs.AE rfl⟩;clear hs
 have:(if C1 (x / 18446744073709551616) (y / 18446744073709551616)=0 then C1 (x % 18446744073709551616) (y % 18446744073709551616) else C1 (x / 18446744073709551616) (y / 18446744073709551616))=C1 x y:=by
  unfold C1
  repeat' split
  all_goals omega
 rw [this];rfl
theorem R8 (x:Int) (hx:Ac x) (w0:World):AO prog 180 #[wv x] w0 fun v w'=>v = .int .i64 (C1 x 0)∧AB [] w0 w':=by
 have hs:=St.nil w0;refine AS func180 ntmps180 ?_
 repeat' (first|refine Sa ?_|(refine bx hs ?_;intro b w hz hs)|fail)
 refine AZ hs (h:=by exact TL x 0 hx (by decide) _) ?_;intro w' ho hs;refine Jc ?_;refine AG ?_;exact ⟨rfl,hs.AE rfl⟩
def sN (x X:Int):Prop:=0≤X∧(x < 0∧x=-X∨0≤x∧x=X)
theorem Xi (x:Int):∃ X,sN x X:=by
 rcases Int.lt_or_le x 0 with h | h
 ·exact ⟨-x,by omega,.inl om⟩
 ·exact ⟨x,by omega,.inr om⟩
theorem Pj {x X:Int} (hx:Ac x) (h:sN x X) (w0:World):AO prog 124 #[wv x] w0 fun v w'=>v = .tuple #[.int .u64 (X / 18446744073709551616),.int .u64 (X % 18446744073709551616)]∧AB [] w0 w':=by
 have:=pU x hx w0;unfold sC at this;have e:(if x < 0 then -x else x)=X:=by obtain ⟨h1,h2⟩:=h;split <;> omega
 rw [e] at this;exact this
theorem kI {hi lo:Int} (s:Int) (h0:0≤s) (h1:s < 340282366920938463463374607431768211456) (h2:hi=s / 18446744073709551616) (h3:lo=s % 18446744073709551616) (neg:Bool) (w0:World) :
 AO prog 187 #[.int .u64 hi,.int .u64 lo,.bool neg] w0 fun v w'=>v=EW (bif neg then -s else s)∧AB [] w0 w':=by subst h2 h3;exact aM s h0 h1 neg w0
theorem Y0 (s:Int):∃ t b,EW s = .tuple #[wv t,.bool b]∧packed [wv t,.bool b]=EW s:=by
 unfold EW;split
 ·exact ⟨_,_,rfl,rfl⟩
 ·exact ⟨_,_,rfl,rfl⟩
theorem Pe (x n:Int) (hx:Ac x) (hn0:-9223372036854775808≤n) (KP:n < 9223372036854775808) (w0:World):AO prog 142 #[wv x,.int .i64 n] w0 fun v w'=>v=EW (x*n)∧AB [] w0 w':=by
 have hx':=hx;obtain ⟨hx1,hx2⟩:=hx;have hs:=St.nil w0;obtain ⟨X,hX⟩:=Xi x;obtain ⟨N,hN⟩:=Xi n;have xX:=hX;have hN0:=hN;obtain ⟨xP,hX2⟩:=hX;obtain ⟨wO,Mj⟩:=hN;have hNN:N % 18446744073709551616=N:=by omega
 have b1:=HK (a:=X / 18446744073709551616) (b:=N) (m:=9223372036854775808) om om om om;have b2:0≤X % 18446744073709551616*N∧X % 18446744073709551616*N≤18446744073709551615*9223372036854775808:=⟨aDm om om,Int.mul_le_mul om om om om⟩;refine AS func142 ntmps142 ?_
 repeat' (first|refine Sa ?_|(refine al hs ?_;intro b w hz hs)|(refine bx hs ?_;intro b w hz hs)|fail)
 refine AZ hs (h:=by exact Pj hx' xX _) ?_;intro w' ho hs;refine Ja ?_;refine AZ hs (h:=by exact Fp n hn0 KP _) ?_;intro w' ho hs
 skip
 refine AZ hs (h:=by exact Pj (by unfold Ac;omega) hN0 _) (k:=?_);intro w' ho hs;rw [hNN];refine Ja ?_;refine AZ hs (h:=by exact Oe _ _ om om om om _) ?_;intro w' ho hs;refine Ja ?_;refine AZ hs (h:=by exact Oe _ _ om om om om _) ?_;intro w' ho hs;refine Ja ?_;refine cl (h:=by exact Ih _ _ _ om om om om _) ?_;rintro v w' ⟨rfl,rfl⟩
 have key:X*N=X / 18446744073709551616*N*18446744073709551616+X % 18446744073709551616*N:=by
  have:X=X / 18446744073709551616*18446744073709551616+X % 18446744073709551616:=by omega
  generalize X / 18446744073709551616=p at *;generalize X % 18446744073709551616=q at *;grind
 have hneg:x*n=(bif (decide (x / 18446744073709551616 < 0) != decide (n < 0)) then -(X*N) else X*N):=by
  rcases hX2 with ⟨h1,h2⟩ | ⟨h1,h2⟩ <;> rcases Mj with ⟨h3,h4⟩ | ⟨h3,h4⟩
  ·rw [decide_eq_true (show x / 18446744073709551616 < 0 by omega),decide_eq_true h3,h2,h4];simp [Int.neg_mul,Int.mul_neg]
  ·rw [decide_eq_true (show x / 18446744073709551616 < 0 by omega),decide_eq_false (show ¬ n < 0 by omega),h2,h4];simp [Int.neg_mul,Int.mul_neg]
  ·rw [decide_eq_false (show ¬ x / 18446744073709551616 < 0 by omega),decide_eq_true h3,h2,h4];simp [Int.neg_mul,Int.mul_neg]
  ·rw [decide_eq_false (show ¬ x / 18446744073709551616 < 0 by omega),decide_eq_false (show ¬ n < 0 by omega),h2,h4];simp [Int.neg_mul,Int.mul_neg]
 generalize X / 18446744073709551616*N=p1 at *;generalize X % 18446744073709551616*N=p2 at *
 repeat' (first|refine Se ?_|(refine AV hs ?_;intro w hs)|((with_reducible apply BV);exact rfl;exact rfl;intro c hc;(fail_if_success have:true=c:=hc);(fail_if_success have:false=c:=hc);cases c)|refine xc_cond rfl (fun hc=>?_) fun hc=>?_|fail)
 all_goals simp only [bne_iff_ne,ne_eq,bne_eq_false_iff_eq] at *
 ·refine AG ?_;refine ⟨?_,hs.AE rfl⟩;clear hs;refine Jp ?_;rw [hneg];unfold Ac;cases (decide (x / 18446744073709551616 < 0) != decide (n < 0)) <;> simp only [cond_true,cond_false] <;> omega
 ·refine AZ hs (h:=by exact kI (X*N) om om om om _ _) ?_;intro w' ho hs;obtain ⟨t,b',e1,e2⟩:=Y0 (bif decide (x / 18446744073709551616 < 0) != decide (n < 0) then -(X*N) else X*N);rw [e1]
  repeat' (first|refine Sb ?_|(refine AV hs ?_;intro w hs)|fail)
  refine AG ?_;exact ⟨e2.trans (by rw [hneg]),hs.AE rfl⟩
 ·refine AG ?_;refine ⟨?_,hs.AE rfl⟩;clear hs;refine Jp ?_;rw [hneg];unfold Ac;cases (decide (x / 18446744073709551616 < 0) != decide (n < 0)) <;> simp only [cond_true,cond_false] <;> omega
end Go.Proofs.Q0
namespace Go.Proofs.Q0
structure Kd (u v c d y q r:Int):Prop where
 sum:q*c+r=u
 q0:0≤q
 q1:q≤4294967297
 r0:0≤r
 r1:r < 4294967296
 up:u*4294967296+v < (q+1)*y
structure TV (u v c d y:Int):Prop where
 y_eq:y=c*4294967296+d
 c0:2147483648≤c
 c1:c < 4294967296
 d0:0≤d
 d1:d < 4294967296
 u0:0≤u
 u1:u < y
 v0:0≤v
 v1:v < 4294967296
def Rs (u v y q:Int):Prop:=0≤q∧q*y≤u*4294967296+v∧u*4294967296+v < (q+1)*y
variable {u v c d y q r : Int}
theorem Pm (h:TV u v c d y):Kd u v c d y (u / c) (u - u / c*c):=by
 obtain ⟨hy,c0,c1,d0,d1,u0,u1,v0,v1⟩:=h;have hm:=aDr u c;have h1:=aDe u (show c≠0 by omega);have h2:=aDi u (show 0 < c by omega);have h3:0≤u / c:=aDc u0 om;have h4:u / c*c=c*(u / c):=aDU _ _;generalize u / c=q at *;generalize u % c=m at *
 have hq:q≤4294967297:=by
  rcases Int.lt_or_le q 4294967298 with h | h
  ·omega
  ·have:c*4294967298≤c*q:=aDn h om;omega
 refine ⟨by omega,h3,hq,by omega,by omega,?_⟩;have e:(q+1)*y=(c*q+c)*4294967296+(q+1)*d:=by subst hy;grind
 have:0≤(q+1)*d:=aDm om d0;omega
theorem ZS (h:TV u v c d y) (k:Kd u v c d y q r) (h2:q*d≤4294967296*r+v):Rs u v y q:=by
 obtain ⟨hy,c0,c1,d0,d1,u0,u1,v0,v1⟩:=h;obtain ⟨s,q0,q1,r0,r1,up⟩:=k;have e:q*y=q*c*4294967296+q*d:=by subst hy;grind
 exact ⟨q0,by omega,up⟩
theorem ZW (h:TV u v c d y) (k:Kd u v c d y q r) (h2:4294967296≤q∨4294967296*r+v < q*d) :
 1≤q∧(r+c < 4294967296→Kd u v c d y (q - 1) (r+c))∧(4294967296≤r+c→Rs u v y (q - 1)):=by
 obtain ⟨hy,c0,c1,d0,d1,u0,u1,v0,v1⟩:=h;obtain ⟨s,q0,q1,r0,r1,up⟩:=k
 have hq:1≤q:=by
  rcases h2 with h2 | h2
  ·omega
  ·rcases Int.lt_or_le q 1 with h | h
   ·have:q=0:=by omega
    subst this;omega
   ·exact h
 have e:q*y=q*c*4294967296+q*d:=by subst hy;grind
 have hup:u*4294967296+v < q*y:=by
  rcases h2 with h2 | h2
  ·have:4294967296*y≤q*y:=aDs h2 om;omega
  ·omega
 have e1:(q - 1)*c+(r+c)=u:=by rw [Int.sub_mul];omega
 refine ⟨hq,fun hr=>⟨e1,by omega,by omega,by omega,hr,by rw [show q - 1+1=q by omega];exact hup⟩,fun hr=>⟨by omega,?_,by rw [show q - 1+1=q by omega];exact hup⟩⟩;have e2:(q - 1)*y=(q - 1)*c*4294967296+(q - 1)*d:=by subst hy;grind
 have:(q - 1)*d≤4294967296*4294967295:=Int.mul_le_mul om om d0 om;omega
theorem gU (h:TV u v c d y) (k:Rs u v y q):q=(u*4294967296+v) / y∧q < 4294967296∧u*4294967296+v - q*y=(u*4294967296+v) % y∧0≤u*4294967296+v - q*y∧u*4294967296+v - q*y < y:=by
 obtain ⟨hy,c0,c1,d0,d1,u0,u1,v0,v1⟩:=h;obtain ⟨q0,k1,k2⟩:=k;have hy0:0 < y:=by omega
 have e:(q+1)*y=q*y+y:=by rw [Int.add_mul,Int.one_mul]
 have h1:0≤u*4294967296+v - q*y:=by omega
 have h2:u*4294967296+v - q*y < y:=by omega
 have hq:q=(u*4294967296+v) / y:=by
  have:u*4294967296+v=(u*4294967296+v - q*y)+q*y:=by omega
  rw [this,aD4 _ _ om,aD9 h1 h2];omega
 refine ⟨hq,?_,?_,h1,h2⟩
 ·rcases Int.lt_or_le q 4294967296 with h | h
  ·exact h
  ·have:4294967296*y≤q*y:=aDs h om;omega
 ·have:=aDr (u*4294967296+v) y;rw [← hq,aDU] at this;omega
theorem xL {T y P Y Q R:Int} (hP:0 < P) (hy:0 < y) (hY:y*P=Y) (h:T*P=Q*Y+R) (h0:0≤R) (h1:R < Y):Q=T / y∧R / P=T % y:=by
 subst hY;have h2:R=(T - Q*y)*P:=by grind
 have h3:R / P=T - Q*y:=by rw [h2,Int.mul_ediv_cancel _ om]
 have h4:0≤T - Q*y:=by rw [← h3];exact aDc h0 om
 have h5:T - Q*y < y:=by
  rw [h2] at h1;exact Int.lt_of_mul_lt_mul_right h1 om
 have hq:Q=T / y:=by
  have:T=(T - Q*y)+Q*y:=by omega
  rw [this,aD4 _ _ om,aD9 h4 h5];omega
 refine ⟨hq,?_⟩;rw [h3,hq];have:=aDr T y;rw [aDU] at this;omega
theorem uE {hi lo y P Q:Int} (hP:0 < P) (hQ:0 < Q) (hPQ:P*Q=18446744073709551616) (h0:0≤hi) (h1:hi < y) (h2:0≤lo) (h3:lo < 18446744073709551616) :
 0≤lo / Q∧lo / Q < P∧hi*P+lo / Q < y*P∧(hi*18446744073709551616+lo)*P=(hi*P+lo / Q)*18446744073709551616+lo*P % 18446744073709551616:=by
 have e1:=aDr lo Q;have e2:=aDe lo (show Q≠0 by omega);have e3:=aDi lo hQ;have e4:0≤lo / Q:=aDc h2 om;have e5:lo / Q < P:=by rw [Int.ediv_lt_iff_lt_mul hQ,hPQ];exact h3
 have e6:hi*P+P≤y*P:=by
  have:(hi+1)*P≤y*P:=aDs om om;rw [Int.add_mul,Int.one_mul] at this;exact this
 refine ⟨e4,e5,by omega,?_⟩
 have e7:lo*P=lo / Q*18446744073709551616+lo % Q*P:=by
  generalize lo / Q=B at *;generalize lo % Q=C at *;rw [← hPQ,← e1];grind
 have e8:lo % Q*P < 18446744073709551616:=by
  have:=Int.mul_lt_mul_of_pos_right e3 hP;rw [aDU Q P,hPQ] at this;exact this
 have e9:0≤lo % Q*P:=aDm e2 om;have e10:(hi*18446744073709551616+lo)*P=hi*P*18446744073709551616+lo*P:=by grind
 rw [e10,e7];generalize lo / Q=B at *;generalize lo % Q*P=C at *;generalize hi*P=A at *;omega
def len8 (k:Nat):Nat:=if k=0 then 0 else Nat.log2 k+1
theorem ZB:∀ k < 256,k < 2 ^ len8 k∧(0 < k→2 ^ len8 k≤2*k)∧len8 k≤8:=by decide
def K1 (x L:Int) (m:Nat):Prop:=∃ l:Nat,L=l∧l≤m∧x < 2 ^ l∧(0 < x→(2:Int) ^ l≤2*x)
theorem aCR {x:Int} (h0:0≤x) (h1:x < 256):K1 x ((len8 x.toNat:Nat):Int) 8:=by
 obtain ⟨n,rfl⟩:=aDy h0;obtain ⟨h2,h3,h4⟩:=ZB n om;refine ⟨_,rfl,h4,?_,fun h=>?_⟩
 ·simpa using (by exact_mod_cast h2:((n:Nat):Int) < ((2 ^ len8 n:Nat):Int))
 ·have:=h3 om;simpa using (by exact_mod_cast this:((2 ^ len8 n:Nat):Int)≤((2*n:Nat):Int))
theorem bl_shift {x L:Int} {m:Nat} (k:Nat) {p:Int} (hp:(2:Int) ^ k=p) (h:K1 (x / p) L m) (hx:0 < x / p):K1 x (L+k) (m+k):=by
 obtain ⟨l,rfl,h1,h2,h3⟩:=h;have iT:0 < p:=by rw [← hp];exact Int.pow_pos (by decide)
 have h3:=h3 hx
 have hx0:0 < x:=by
  rcases Int.lt_or_le 0 x with h | h
  ·exact h
  ·have:=Int.ediv_le_ediv iT h;simp at this;omega
 refine ⟨l+k,by simp,by omega,?_,fun _=>?_⟩
 ·rw [Int.pow_add,hp];exact (Int.ediv_lt_iff_lt_mul iT).1 h2
 ·rw [Int.pow_add,hp];have h5:=aDr x p;have h6:=aDe x (show p≠0 by omega);have h7:(2:Int) ^ l*p≤2*(x / p)*p:=aDs h3 om;have h8:2*(x / p)*p=2*(p*(x / p)):=by grind
  omega
theorem K1.mono {x L:Int} {m m':Nat} (h:K1 x L m) (hm:m≤m'):K1 x L m':=by
 obtain ⟨l,h0,h1,h2⟩:=h;exact ⟨l,h0,by omega,h2⟩
end Go.Proofs.Q0
namespace Go.Proofs.Q0
open Go Go.RowKit Tryz
attribute [local irreducible] XS XC XA AY AR A9 A1 A0 Aa Ae AW SE
theorem wrap_u8 (n:Int):IntKind.u8.wrap n=n % 256:=by simp [IntKind.wrap,IntKind.signed,IntKind.bits]
theorem GH {x X c:Int} (k:Nat) (p:Int) (hk:k≤56) (hp:(2:Int) ^ k=p) (hc:c=k) (hX:X=x / p) (h:k=0∨0 < X) (h0:0≤X) (h1:X < 256) :
 ∃ L,packed [Value.int .i64 (IntKind.i64.wrap (c+IntKind.i64.wrap ((len8 (IntKind.u8.wrap X).toNat:Nat):Int)))] = .int .i64 L∧K1 x L 64:=by
 have e1:IntKind.u8.wrap X=X:=by rw [wrap_u8];omega
 have hb:=aCR h0 h1;have hl:len8 X.toNat≤8:=(ZB X.toNat om).2.2;refine ⟨len8 X.toNat+k,?_,?_⟩
 ·rw [e1];simp only [wrap_i64,packed];congr 1;omega
 ·rcases h with h | h
  ·subst h;have:X=x:=by rw [hX,← hp];simp
   subst this;simpa using hb.mono (show 8≤64 by decide)
  ·subst hX;exact (bl_shift k hp hb h).mono om
theorem mD (x:Int) (hx0:0≤x) (hx1:x < 18446744073709551616) (w0:World):AO prog 166 #[.int .u64 x] w0 fun v w'=>(∃ L,v = .int .i64 L∧K1 x L 64)∧AB [] w0 w':=by
 have hs:=St.nil w0;refine AS func166 ntmps166 ?_
 repeat' (first|refine Sa ?_|refine Aw rfl (fun hc=>?_) fun hc=>?_|fail)
 all_goals (have hs:=hs;(with_reducible apply xs_val);exact rfl;(with_reducible apply oN AJ 256 len8);exact rfl;exact rfl;exact rfl;kernel_rfl;(rw [wrap_u8];omega);(rw [wrap_u8];omega))
 all_goals (refine Jc ?_)
 all_goals (refine AG ?_)
 all_goals refine ⟨?_,hs.AE rfl⟩
 all_goals clear hs
 all_goals try simp only [decide_eq_true_eq,decide_eq_false_iff_not] at *
 all_goals first | exact GH 56 72057594037927936 (by decide) (by decide) (by rfl) om om om om | exact GH 48 281474976710656 (by decide) (by decide) (by rfl) om om om om | exact GH 40 1099511627776 (by decide) (by decide) (by rfl) om om om om | exact GH 32 4294967296 (by decide) (by decide) (by rfl) om om om om | exact GH 24 16777216 (by decide) (by decide) (by rfl) om om om om | exact GH 16 65536 (by decide) (by decide) (by rfl) om om om om | exact GH 8 256 (by decide) (by decide) (by rfl) om om om om | exact GH 0 1 (by decide) (by decide) (by rfl) om om om om
theorem mQ (x:Int) (hx0:0 < x) (hx1:x < 18446744073709551616) (w0:World):AO prog 167 #[.int .u64 x] w0 fun v w'=>(∃ s:Nat,v = .int .i64 (s:Nat)∧s≤63∧x*2 ^ s < 18446744073709551616∧9223372036854775808≤x*2 ^ s)∧AB [] w0 w':=by
 have hs:=St.nil w0;refine AS func167 ntmps167 ?_;refine Ja ?_;refine cl (h:=by exact mD x om hx1 _) ?_;rintro v w' ⟨⟨L,rfl,hL⟩,ho⟩;replace hs:=hs.AP ho;refine Jc ?_;refine AG ?_;refine ⟨?_,hs.AE rfl⟩;obtain ⟨l,rfl,h1,h2,h3⟩:=hL;have h3:=h3 hx0
 have hl:1≤l:=by
  rcases aD2 l with h | h
  ·subst h;simp at h2;omega
  ·exact h
 have hp:(2:Int) ^ l*2 ^ (64 - l)=18446744073709551616:=by
  rw [← Int.pow_add,show l+(64 - l)=64 by omega];rfl
 refine ⟨64 - l,?_,by omega,?_,?_⟩
 ·simp only [packed,wrap_i64];congr 1;omega
 ·have:=Int.mul_lt_mul_of_pos_right h2 (show (0:Int) < 2 ^ (64 - l) from Int.pow_pos (by decide));omega
 ·have:(2:Int) ^ l*2 ^ (64 - l)≤2*x*2 ^ (64 - l):=aDs h3 (aDb (Int.pow_pos (by decide)));rw [hp,Int.mul_assoc] at this;omega
theorem Z2 {q r v d:Int} (e1:IntKind.u64.wrap (4294967296*r)=4294967296*r) (e2:IntKind.u64.wrap (4294967296*r+v)=4294967296*r+v) (e4:q < 4294967296→IntKind.u64.wrap (q*d)=q*d)
 (h1:decide (4294967296≤q)=false) (h2:IntKind.u64.wrap (IntKind.u64.wrap (4294967296*r)+v) < IntKind.u64.wrap (q*d)):4294967296≤q∨4294967296*r+v < q*d:=by
 have:=of_decide_eq_false h1;rw [e1,e2,e4 om] at h2;exact .inr h2
theorem kd_ncond {q r v d:Int} (e1:IntKind.u64.wrap (4294967296*r)=4294967296*r) (e2:IntKind.u64.wrap (4294967296*r+v)=4294967296*r+v) (e4:q < 4294967296→IntKind.u64.wrap (q*d)=q*d)
 (h1:decide (4294967296≤q)=false) (h2:¬ IntKind.u64.wrap (IntKind.u64.wrap (4294967296*r)+v) < IntKind.u64.wrap (q*d)):q*d≤4294967296*r+v:=by
 have:=of_decide_eq_false h1;rw [e1,e2,e4 om] at h2;omega
theorem O8 (hi lo y:Int) (h0:0≤hi) (h1:hi < y) (h2:y < 18446744073709551616) (h3:0≤lo) (h4:lo < 18446744073709551616) (w0:World) :
 AO prog 125 #[.int .u64 hi,.int .u64 lo,.int .u64 y] w0 fun v w'=>v = .tuple #[.int .u64 ((hi*18446744073709551616+lo) / y),.int .u64 ((hi*18446744073709551616+lo) % y)]∧AB [] w0 w':=by
 have hs:=St.nil w0;refine AS func125 ntmps125 ?_
 repeat' (first|refine Sa ?_|refine Aw rfl (fun hc=>?_) fun hc=>?_|fail)
 ·omega
 ·omega
 ·refine dr [] hs ?_;intro hX w hs;refine tks 0 8 ?_;refine en ?_;refine Jb ?_;refine AG ?_;refine ⟨?_,hs.AE rfl⟩;have:hi=0:=by omega
  subst this;refine RI ?_ ?_ <;> simp
 refine cl (h:=by exact mQ y om h2 _) ?_;rintro v w' ⟨⟨sh,rfl,hs1,hs2,hs3⟩,ho⟩;replace hs:=hs.AP ho;refine Ja ?_;rw [wrap_small (show (0:Int)≤(sh:Nat) by omega) om];have hP:(0:Int) < 2 ^ sh:=Int.pow_pos (by decide);have hQ:(0:Int) < 2 ^ (64 - sh):=Int.pow_pos (by decide);have hPQ:(2:Int) ^ sh*2 ^ (64 - sh)=18446744073709551616:=by rw [← Int.pow_add,show sh+(64 - sh)=64 by omega];rfl
 obtain ⟨g1,g2,g3,g4⟩:=uE hP hQ hPQ h0 h1 h3 h4;have hhi:0≤hi*2 ^ sh:=aDm h0 om;have hA:hi*2 ^ sh < 18446744073709551616:=by omega
 (with_reducible apply TM);exact rfl;(with_reducible apply WE sh);exact rfl;exact rfl;exact rfl;exact (by show sh≤64;omega);exact congrArg (Value.int .u64) (wrap_small om om)
 generalize hY:y*2 ^ sh=Y at *;refine Ja ?_
 (with_reducible apply TM);exact rfl;(with_reducible apply WE sh);exact rfl;exact rfl;exact rfl;exact (by show sh≤64;omega);exact congrArg (Value.int .u64) (wrap_small hhi hA)
 refine Jf ?_
 (with_reducible apply xs_val);exact rfl;(with_reducible apply iJ (64 - sh));exact rfl;exact rfl;exact (by rw [wrap_small om om];omega);exact (by show 64 - sh≤64;omega)
 (with_reducible apply xs_val);exact rfl;(with_reducible apply aAu sh hi);exact rfl;exact rfl;exact rfl;exact h0;exact g1;exact g2;omega
 refine Ja ?_
 (with_reducible apply TM);exact rfl;(with_reducible apply WE sh);exact rfl;exact rfl;exact rfl;exact (by show sh≤64;omega);exact congrArg (Value.int .u64) (wrap_u64 _)
 have hL:0≤lo*2 ^ sh % 18446744073709551616∧lo*2 ^ sh % 18446744073709551616 < 18446744073709551616:=by omega
 have hu0:0≤hi*2 ^ sh+lo / 2 ^ (64 - sh):=by omega
 generalize hi*2 ^ sh+lo / 2 ^ (64 - sh)=u at *;generalize lo*2 ^ sh % 18446744073709551616=L at *;refine Ja ?_;have hK:TV u (L / 4294967296) (Y / 4294967296) (Y % 4294967296) Y:=⟨by omega,by omega,by omega,by omega,by omega,hu0,g3,by omega,by omega⟩;have kk:=Pm hK
 have e1:IntKind.u64.wrap (u / (Y / 4294967296)*(Y / 4294967296))=u / (Y / 4294967296)*(Y / 4294967296):=by
  have:=aDm kk.q0 (show 0≤Y / 4294967296 by omega);have:=kk.sum;have:=kk.r0;exact wrap_small om om
 have e2:IntKind.u64.wrap (u - u / (Y / 4294967296)*(Y / 4294967296))=u - u / (Y / 4294967296)*(Y / 4294967296):=wrap_small kk.r0 (by have:=kk.r1;omega);rw [e1,e2];clear e1 e2 kk;generalize Mi:Y / 4294967296=c at *;generalize hd':Y % 4294967296=d at *;generalize hv1:L / 4294967296=v1 at *;generalize hv0:L % 4294967296=v0 at *;refine BM (fun (z:Int)=>[(2,.int .u64 Y),(8,.int .u64 ((sh:Nat):Int)),(9,.int .u64 c),(10,.int .u64 d),(11,.int .u64 u),(13,.int .u64 v1),(14,.int .u64 v0),(15,.int .u64 z)]) (fun z w=>Rs u v1 Y z∧St w0 D0 [] w) ?_ ?_
 ·refine BH (fun (s:Int × Int)=>[(2,.int .u64 Y),(8,.int .u64 ((sh:Nat):Int)),(9,.int .u64 c),(10,.int .u64 d),(11,.int .u64 u),(13,.int .u64 v1),(14,.int .u64 v0),(15,.int .u64 s.1),(16,.int .u64 s.2)]) (fun s w=>Kd u v1 c d Y s.1 s.2∧St w0 D0 [] w) (fun s=>s.1.toNat) (u / c,u - u / c*c) Ad ⟨Pm hK,hs⟩ fun s env w hI=>?_;obtain ⟨hk,hs⟩:=hI;generalize hsq:s.1=q at *;generalize hsr:s.2=r at *;have hk':=hk;obtain ⟨k1,k2,k3,k4,k5,k6⟩:=hk';have e1:IntKind.u64.wrap (4294967296*r)=4294967296*r:=wrap_small om om;have e2:IntKind.u64.wrap (4294967296*r+v1)=4294967296*r+v1:=wrap_small om om;have e3:IntKind.u64.wrap (r+c)=r+c:=wrap_small om om
  have e4:q < 4294967296→IntKind.u64.wrap (q*d)=q*d:=fun hq=>by
   have:=HK (a:=q) (b:=d) (m:=4294967295) k2 om hK.d0 (by have:=hK.d1;omega);exact wrap_small om om
  repeat' (first|refine vs ?_|refine ps ?_|refine Aq ?_|refine Nx.h ?_|refine qY ?_|refine FP ?_|((with_reducible apply BV);exact rfl;exact rfl;intro c hc;(fail_if_success have:true=c:=hc);(fail_if_success have:false=c:=hc);cases c)|refine Aw rfl (fun hc=>?_) fun hc=>?_|fail)
  all_goals first
   | exact Au q Ad ⟨ZS hK hk (kd_ncond e1 e2 e4 (by assumption) (by assumption)),hs⟩
   | skip
  all_goals have hst:4294967296≤q∨4294967296*r+v1 < q*d:=by first | exact .inl (of_decide_eq_true (by assumption)) | exact Z2 e1 e2 e4 (by assumption) (by assumption)
  all_goals obtain ⟨h1,h2,h3⟩:=ZW hK hk hst
  all_goals have e5:IntKind.u64.wrap (q - 1)=q - 1:=wrap_small om om
  all_goals simp only [e3] at hc
  all_goals first
   | exact Au (q - 1) (by (repeat (first | exact Ag | (apply A8;first | exact rfl | exact congrArg (Value.int .u64) e5 | exact congrArg (Value.int .u64) e3)))) ⟨h3 om,hs⟩
   | exact A2 (q - 1,r+c) (by simp only [hsq];omega) (by (repeat (first | exact Ag | (apply A8;first | exact rfl | exact congrArg (Value.int .u64) e5 | exact congrArg (Value.int .u64) e3)))) ⟨h2 om,hs⟩
 rintro q env w ⟨hfq,hs⟩;obtain ⟨f1,f2,f3,f4,f5⟩:=gU hK hfq;refine Ja ?_;have hq0:=hfq.1
 have E1:IntKind.u64.wrap (IntKind.u64.wrap (IntKind.u64.wrap (u*4294967296)+v1) - IntKind.u64.wrap (q*Y))=u*4294967296+v1 - q*Y:=by
  clear f1 f3;simp only [wrap_u64];generalize q*Y=z at *;omega
 rw [E1];clear E1;generalize HN:u*4294967296+v1 - q*Y=u2 at *;have hd:=hK.d0;have sJ:=hK.d1;have vZ:=hK.c0;have hcd:=hK.c1;have hyy:=hK.y_eq;have W6:TV u2 v0 c d Y:=⟨hyy,vZ,hcd,hd,sJ,f4,f5,by omega,by omega⟩;have kk:=Pm W6
 have e1:IntKind.u64.wrap (u2 / c*c)=u2 / c*c:=by
  have:=aDm kk.q0 (show 0≤c by omega);have:=kk.sum;have:=kk.r0;exact wrap_small om om
 have e2:IntKind.u64.wrap (u2 - u2 / c*c)=u2 - u2 / c*c:=wrap_small kk.r0 (by have:=kk.r1;omega);rw [e1,e2];clear e1 e2 kk;refine BM (fun (z:Int)=>[(2,.int .u64 Y),(8,.int .u64 ((sh:Nat):Int)),(9,.int .u64 c),(10,.int .u64 d),(14,.int .u64 v0),(15,.int .u64 q),(17,.int .u64 u2),(18,.int .u64 z)]) (fun z w=>Rs u2 v0 Y z∧St w0 D0 [] w) ?_ ?_
 ·refine BH (fun (s:Int × Int)=>[(2,.int .u64 Y),(8,.int .u64 ((sh:Nat):Int)),(9,.int .u64 c),(10,.int .u64 d),(14,.int .u64 v0),(15,.int .u64 q),(17,.int .u64 u2),(18,.int .u64 s.1),(16,.int .u64 s.2)]) (fun s w=>Kd u2 v0 c d Y s.1 s.2∧St w0 D0 [] w) (fun s=>s.1.toNat) (u2 / c,u2 - u2 / c*c) Ad ⟨Pm W6,hs⟩ fun s env w hI=>?_;obtain ⟨hk,hs⟩:=hI;generalize hsq:s.1=q at *;generalize hsr:s.2=r at *;have hk':=hk;obtain ⟨k1,k2,k3,k4,k5,k6⟩:=hk';have e1:IntKind.u64.wrap (4294967296*r)=4294967296*r:=wrap_small om om;have e2:IntKind.u64.wrap (4294967296*r+v0)=4294967296*r+v0:=wrap_small om om;have e3:IntKind.u64.wrap (r+c)=r+c:=wrap_small om om
  have e4:q < 4294967296→IntKind.u64.wrap (q*d)=q*d:=fun hq=>by
   have:=HK (a:=q) (b:=d) (m:=4294967295) k2 om W6.d0 (by have:=W6.d1;omega);exact wrap_small om om
  repeat' (first|refine vs ?_|refine ps ?_|refine Aq ?_|refine Nx.h ?_|refine qY ?_|refine FP ?_|((with_reducible apply BV);exact rfl;exact rfl;intro c hc;(fail_if_success have:true=c:=hc);(fail_if_success have:false=c:=hc);cases c)|refine Aw rfl (fun hc=>?_) fun hc=>?_|fail)
  all_goals first
   | exact Au q Ad ⟨ZS W6 hk (kd_ncond e1 e2 e4 (by assumption) (by assumption)),hs⟩
   | skip
  all_goals have hst:4294967296≤q∨4294967296*r+v0 < q*d:=by first | exact .inl (of_decide_eq_true (by assumption)) | exact Z2 e1 e2 e4 (by assumption) (by assumption)
  all_goals obtain ⟨h1,h2,h3⟩:=ZW W6 hk hst
  all_goals have e5:IntKind.u64.wrap (q - 1)=q - 1:=wrap_small om om
  all_goals simp only [e3] at hc
  all_goals first
   | exact Au (q - 1) (by (repeat (first | exact Ag | (apply A8;first | exact rfl | exact congrArg (Value.int .u64) e5 | exact congrArg (Value.int .u64) e3)))) ⟨h3 om,hs⟩
   | exact A2 (q - 1,r+c) (by simp only [hsq];omega) (by (repeat (first | exact Ag | (apply A8;first | exact rfl | exact congrArg (Value.int .u64) e5 | exact congrArg (Value.int .u64) e3)))) ⟨h2 om,hs⟩
 rintro p env w ⟨hfp,hs⟩;obtain ⟨i1,i2,i3,i4,i5⟩:=gU W6 hfp;refine Ja ?_
 (with_reducible apply xs_val);exact rfl;(with_reducible apply iJ sh);exact rfl;exact rfl;exact rfl;exact (by show sh≤64;omega)
 refine Jc ?_;refine AG ?_;refine ⟨?_,hs.AE rfl⟩;clear hs;have iT:=hfp.1
 have E1:IntKind.u64.wrap (IntKind.u64.wrap (IntKind.u64.wrap (u2*4294967296)+v0) - IntKind.u64.wrap (p*Y))=u2*4294967296+v0 - p*Y:=by
  clear i1 i3 f1 f3 HN;simp only [wrap_u64];generalize p*Y=z at *;omega
 rw [E1]
 have E2:IntKind.u64.wrap (IntKind.u64.wrap (q*4294967296)+p)=q*4294967296+p:=by
  rw [wrap_small (n:=q*4294967296) om om];exact wrap_small om om
 rw [E2]
 obtain ⟨j1,j2⟩:=xL (T:=hi*18446744073709551616+lo) (Q:=q*4294967296+p) hP (show 0 < y by omega) hY (by
  have:(q*4294967296+p)*Y=q*Y*4294967296+p*Y:=by grind
  rw [g4,this];omega) i4 i5
 rw [j2];exact RI j1 rfl
theorem pG (h l y:Int) (hy:0 < y) (hl0:0≤l) (KU:l < 18446744073709551616):(h*18446744073709551616+l) / y=h / y*18446744073709551616+(h % y*18446744073709551616+l) / y ∧
 (h*18446744073709551616+l) % y=(h % y*18446744073709551616+l) % y∧0≤(h % y*18446744073709551616+l) / y∧(h % y*18446744073709551616+l) / y < 18446744073709551616:=by
 have e1:=aDr h y;have e2:=aDe h (show y≠0 by omega);have e3:=aDi h hy
 have e:h*18446744073709551616+l=(h % y*18446744073709551616+l)+h / y*18446744073709551616*y:=by
  generalize h / y=q at *;generalize h % y=r at *;subst e1;grind
 refine ⟨?_,?_,aDc om om,?_⟩
 ·rw [e,aD4 _ _ om];omega
 ·rw [e,Int.add_mul_emod_self_right]
 ·rw [Int.ediv_lt_iff_lt_mul hy];have:(h % y+1)*18446744073709551616≤y*18446744073709551616:=by omega
  rw [aDU 18446744073709551616 y];omega
def Te (x y:Int):Value:=if y=0 then .tuple #[wv 0,.int .u64 0,.bool false] else .tuple #[wv (x / y),.int .u64 (x % y),.bool true]
theorem vQ {x:Int}:packed [Value.agg #[.int .i64 0,.int .u64 0],.int .u64 0,.bool false]=Te x 0:=rfl
theorem TP {x y r:Int} {v:Value} (hy:y≠0) (hv:v=wv (x / y)) (hr:r=x % y):packed [v,.int .u64 r,.bool true]=Te x y:=by
 unfold Te;rw [if_neg hy,hv,hr];rfl
theorem neg_div {X y q r:Int} (hy:0 < y) (hq:X / y=q) (hr:X % y=r):(0 < r→-X / y=-(q+1)∧-X % y=y - r)∧(¬ 0 < r→-X / y=-q∧-X % y=0):=by
 have e1:=aDr X y;have e2:=aDe X (show y≠0 by omega);have e3:=aDi X hy;rw [hq,hr] at e1;rw [hr] at e2 e3;refine ⟨fun h=>?_,fun h=>?_⟩
 ·have e:-X=(y - r)+-(q+1)*y:=by subst e1;grind
  constructor
  ·rw [e,aD4 _ _ om,aD9 om om];omega
  ·rw [e,Int.add_mul_emod_self_right,Int.emod_eq_of_lt om om]
 ·have e:-X=0+-q*y:=by subst e1;grind
  constructor
  ·rw [e,aD4 _ _ om];simp
  ·rw [e,Int.add_mul_emod_self_right];simp
theorem Z8 (x y:Int) (hx:Ac x) (hy0:0≤y) (hy1:y < 18446744073709551616) (w0:World):AO prog 86 #[wv x,.int .u64 y] w0 fun v w'=>v=Te x y∧AB [] w0 w':=by
 have hx':=hx;obtain ⟨hx1,hx2⟩:=hx;have hs:=St.nil w0;obtain ⟨X,hX⟩:=Xi x;have xX:=hX;obtain ⟨xP,hX2⟩:=hX;refine AS func86 ntmps86 ?_
 repeat' (first|refine Sa ?_|(refine AV hs ?_;intro w hs)|(refine al hs ?_;intro b w hz hs)|(refine bx hs ?_;intro b w hz hs)|refine Aw rfl (fun hc=>?_) fun hc=>?_|fail)
 ·refine AG ?_;have:y=0:=by omega
  subst this;exact ⟨vQ,hs.AE rfl⟩
 refine AZ hs (h:=by exact Pj hx' xX _) ?_;intro w' ho hs;refine Jc ?_;refine dr [] hs ?_;intro hX w hs;refine tks 0 8 ?_;refine en ?_;refine Ja ?_;refine AZ hs (h:=by exact O8 _ _ _ (aDe _ om) (aDi _ om) om om om _) ?_;intro w' ho hs;obtain ⟨d1,d2,d3,d4⟩:=pG (X / 18446744073709551616) (X % 18446744073709551616) y om om om;rw [show X / 18446744073709551616*18446744073709551616+X % 18446744073709551616=X by omega] at d1 d2;have d5:=aDe X (show y≠0 by omega);have d6:=aDi X (show 0 < y by omega);have d7:0≤X / 18446744073709551616 / y:=aDc om om;have d8:X / y≤X:=Int.ediv_le_self y xP
 have d9:X / y+X % y≤X:=by
  have e1:=aDr X y;have e2:1*(X / y)≤y*(X / y):=aDs om (aDc xP om);omega
 rw [d2] at d5 d6 d9;generalize X / 18446744073709551616 / y=q1 at *;generalize (X / 18446744073709551616 % y*18446744073709551616+X % 18446744073709551616) / y=q0 at *;generalize (X / 18446744073709551616 % y*18446744073709551616+X % 18446744073709551616) % y=r at *
 repeat' (first|refine Sa ?_|(refine AV hs ?_;intro w hs)|refine Aw rfl (fun hc=>?_) fun hc=>?_|fail)
 ·refine AG ?_;refine ⟨?_,hs.AE rfl⟩;clear hs;have:x=X:=by omega
  subst this;refine TP om (agg_ok ?_ ?_) d2.symm
  ·simp only [wrap_i64];omega
  ·omega
 ·refine cl (h:=by exact Ih _ _ _ om om om om _) ?_;rintro v w' ⟨rfl,rfl⟩;refine Ja ?_;refine AZ hs (h:=by exact TR (agg_sgn (s:=X / y+1) om om (by simp only [wrap_u64];omega) om) (sgn_in om om) _) (k:=?_);intro w' ho hs
  repeat' (first|refine Sb ?_|(refine AV hs ?_;intro w hs)|fail)
  refine AG ?_;refine ⟨?_,hs.AE rfl⟩;clear hs;have:x=-X:=by omega
  obtain ⟨n1,n2⟩:=(neg_div (show 0 < y by omega) rfl d2).1 om;subst this;refine TP om ?_ ?_
  ·rw [n1];refine congrArg wv ?_;unfold OE sgn
   repeat' split
   all_goals omega
  ·rw [n2,wrap_u64];omega
 ·refine AZ hs (h:=by exact TR (agg_sgn (s:=X / y) om om om om) (sgn_in om om) _) ?_;intro w' ho hs
  repeat' (first|refine Sb ?_|(refine AV hs ?_;intro w hs)|fail)
  refine AG ?_;refine ⟨?_,hs.AE rfl⟩;clear hs;have:x=-X:=by omega
  obtain ⟨n1,n2⟩:=(neg_div (show 0 < y by omega) rfl d2).2 om;subst this;refine TP om ?_ ?_
  ·rw [n1];refine congrArg wv ?_;unfold OE sgn
   repeat' split
   all_goals omega
  ·rw [n2];omega
def In64 (x:Int):Prop:=-9223372036854775808≤x∧x < 9223372036854775808
instance (x:Int):Decidable (In64 x):=by unfold In64;infer_instance
def LO (x:Int):Value:=if In64 x then .tuple #[.int .i64 x,.bool true] else .tuple #[.int .i64 0,.bool false]
theorem PG (x:Int) (hx:Ac x) (w0:World):AO prog 87 #[wv x] w0 fun v w'=>v=LO x∧AB [] w0 w':=by
 have hx':=hx;obtain ⟨hx1,hx2⟩:=hx;have hs:=St.nil w0;refine AS func87 ntmps87 ?_
 repeat' (first|refine Sa ?_|(refine bx hs ?_;intro b w hz hs)|fail)
 refine dr [] hs ?_;intro hX w hs;refine tk 0 hX ?_;refine tk 2 hX ?_;refine dt 1 hX ?_;refine AZ hs (h:=by exact Fp _ (by rw [wrap_i64];omega) (by rw [wrap_i64];omega) _) (k:=?_);intro w' ho hs;refine Jn ?_;refine tk 3 hX ?_;refine en ?_
 repeat' (first|refine Sa ?_|refine xc_cond rfl (fun hc=>?_) fun hc=>?_|fail)
 ·refine AG ?_;refine ⟨?_,hs.AE rfl⟩;clear hs
  have h1:¬ In64 x:=by
   rintro ⟨h1,h2⟩;simp only [wrap_i64,DQ,aDf,Bool.and_eq_false_iff,beq_eq_false_iff_ne,ne_eq] at hc;omega
  unfold LO packed;rw [if_neg h1]
 ·refine AG ?_;refine ⟨?_,hs.AE rfl⟩;clear hs
  have h1:IntKind.i64.wrap (x % 18446744073709551616)=x∧In64 x:=by
   simp only [wrap_i64,DQ,Bool.not_eq_false',aDB,beq_iff_eq,Bool.not_not,not_true,aDf,Bool.not_eq_true] at hc ⊢;unfold In64;constructor <;> omega
  unfold LO packed;rw [if_pos h1.2,h1.1]
structure Pt where
 t:Int
 r:Int
 w:Int
deriving DecidableEq
abbrev Pt.cells (p:Pt):List Value:=[.int .u64 p.t,.int .u32 p.r,.int .u32 p.w]
def pv (p:Pt):Value := .agg #[.int .u64 p.t,.int .u32 p.r,.int .u32 p.w]
def BY (x:Int):Prop:=0≤x∧x < 18446744073709551616
def Fb (x:Int):Prop:=0≤x∧x < 4294967296
instance (x:Int):Decidable (BY x):=by unfold BY;infer_instance
instance (x:Int):Decidable (Fb x):=by unfold Fb;infer_instance
def Pt.In (p:Pt):Prop:=BY p.t∧Fb p.r∧Fb p.w
instance (p:Pt):Decidable p.In:=by unfold Pt.In;infer_instance
def sn (t u:Int):Int:=(t - u+9223372036854775808) % 18446744073709551616 - 9223372036854775808
theorem sn_rng (t u:Int):-9223372036854775808≤sn t u∧sn t u < 9223372036854775808:=by unfold sn;omega
theorem qK (t u:Int):In64 (sn t u):=sn_rng t u
def lat (t d:Int):Int:=(t+d) % 18446744073709551616
theorem Vs (t d:Int):BY (lat t d):=by unfold lat BY;omega
theorem N5 {k:IntKind} {a b:Int} (h:a=b):packed [Value.int k a] = .int k b:=by rw [h];rfl
theorem Ic (t u:Int) (w0:World):AO prog 189 #[.int .u64 t,.int .u64 u] w0 fun v w'=>v = .int .i64 (sn t u)∧AB [] w0 w':=by
 have hs:=St.nil w0;refine AS func189 ntmps189 ?_;refine Ja ?_;refine AG ?_;refine ⟨N5 ?_,hs.AE rfl⟩;simp only [wrap_u64,wrap_i64,sn];omega
theorem Vb (t d:Int) (w0:World):AO prog 88 #[.int .u64 t,.int .i64 d] w0 fun v w'=>v = .int .u64 (lat t d)∧AB [] w0 w':=by
 have hs:=St.nil w0;refine AS func88 ntmps88 ?_;refine Ja ?_;refine AG ?_;refine ⟨N5 ?_,hs.AE rfl⟩;simp only [wrap_u64,wrap_i64,lat];omega
def Eo (w:Int):Bool:=decide (1≤w) && decide (w≤1048576)
theorem SH (w:Int) (w0:World):AO prog 185 #[.int .u32 w] w0 fun v w'=>v = .bool (Eo w)∧AB [] w0 w':=by
 have hs:=St.nil w0;refine AS func185 ntmps185 ?_
 repeat' (first|refine Sf ?_|((with_reducible apply BV);exact rfl;exact rfl;intro c hc;(fail_if_success have:true=c:=hc);(fail_if_success have:false=c:=hc);cases c)|fail)
 all_goals (refine AG ?_)
 all_goals refine ⟨?_,hs.AE rfl⟩
 ·unfold Eo;have:=of_decide_eq_false hc;simp only [packed];congr 1;simp;omega
 ·unfold Eo;have:=of_decide_eq_true hc;simp only [packed];congr 1;simp;omega
def Pt.right (p:Pt):Bool:=Eo p.w && decide (p.r < p.w)
theorem FG (p:Pt) (w0:World):AO prog 141 #[pv p] w0 fun v w'=>v = .bool p.right∧AB [] w0 w':=by
 have hs:=St.nil w0;refine AS func141 ntmps141 ?_
 repeat' (first|refine Sa ?_|(refine bx hs ?_;intro b w hz hs)|fail)
 refine AZ hs (h:=by exact SH _ _) ?_;intro w' ho hs;repeat' (first|refine vs ?_|refine ps ?_|refine Nx.h ?_|((with_reducible apply BV);exact rfl;exact rfl;intro c hc;(fail_if_success have:true=c:=hc);(fail_if_success have:false=c:=hc);cases c)|fail)
 all_goals (refine AG ?_)
 all_goals refine ⟨?_,hs.AE rfl⟩
 ·unfold Pt.right;rw [hc];rfl
 ·unfold Pt.right;rw [hc];rfl
theorem mul_rng {w s W S:Int} (h0:0≤w) (h1:w≤W) (h2:-S≤s) (h3:s≤S):-(W*S)≤w*s∧w*s≤W*S:=by
 have hS:0≤S:=by omega
 have a:w*S≤W*S:=aDs h1 hS;have b:w*s≤w*S:=aDn h3 h0;have c:w*(-S)≤w*s:=aDn h2 h0;rw [Int.mul_neg] at c;omega
theorem gT {x:Int} (h:BY x):IntKind.u64.wrap x=x:=by rw [wrap_u64];unfold BY at h;omega
theorem LU {x:Int} (h:Fb x):IntKind.u64.wrap x=x:=by rw [wrap_u64];unfold Fb at h;omega
theorem wrap_u32 (n:Int):IntKind.u32.wrap n=n % 4294967296:=by simp [IntKind.wrap,IntKind.signed,IntKind.bits]
theorem aAL {x:Int} (h:Fb x):IntKind.u32.wrap x=x:=by rw [wrap_u32];unfold Fb at h;omega
theorem OU (x:Int) (h:Fb x) (w0:World):AO prog 188 #[.int .u64 (IntKind.u64.wrap x)] w0 fun v w'=>v=wv x∧AB [] w0 w':=by
 rw [LU h];unfold Fb at h;exact Pn x om om w0
def dist (p:Pt) (base:Int):Int:=p.w*sn p.t base+p.r
theorem Wy {p:Pt} (h:p.In) (base:Int):-(4294967296*9223372036854775808)≤p.w*sn p.t base∧p.w*sn p.t base≤4294967296*9223372036854775808 :=
 mul_rng h.2.2.1 (aDb h.2.2.2) (by have:=sn_rng p.t base;omega) (by have:=sn_rng p.t base;omega)
theorem dist_in {p:Pt} (h:p.In) (base:Int):Ac (dist p base):=by
 have h1:=Wy h base;obtain ⟨_,⟨h2,h3⟩,_⟩:=h;unfold dist Ac;omega
theorem Pd {x:Int} (h:Ac x):EW x = .tuple #[wv x,.bool true]:=if_pos h
theorem N7 (p:Pt) (base:Int) (h:p.In) (w0:World):AO prog 143 #[pv p,.int .u64 base] w0 fun v w'=>v=wv (dist p base)∧AB [] w0 w':=by
 have h1:=Wy h base;have h4:=dist_in h base;obtain ⟨⟨ht0,ht1⟩,⟨Hj,Mq⟩,hw0,hw1⟩:=h;have h2:=sn_rng p.t base;have hs:=St.nil w0;refine AS func143 ntmps143 ?_
 repeat' (first|refine Aq ?_|refine Nx.h ?_|(refine al hs ?_;intro b w hz hs)|(refine bx hs ?_;intro b w hz hs)|fail)
 refine dr [] hs ?_;intro hX w hs;refine tks 0 3 ?_;refine tks 4 3 ?_;refine Gq 12 5 hs ?_;intro f X w hp;have hs:=hp.st;apply BI 3 12 (f:=f) (X:=X) hX hp;exact rfl;exact rfl;(apply AT AJ;exact rfl);kernel_rfl;kernel_rfl;kernel_rfl;kernel_rfl;(intro X Y;(repeat (first | exact A4 | refine A5 ?_ (by exact rfl))));(intro w' hs;first|exact AI hs.hold|exact AI hs.hold.tail|exact Ab rfl);intro f X w hp;have hs:=hp.st;refine cl (h:=by exact OU p.w ⟨hw0,hw1⟩ _) ?_;rintro v w' ⟨rfl,ho⟩;replace hp:=hp.only ho;replace hs:=hp.st;refine Jn ?_;apply BI 7 12 (f:=f) (X:=X) hX hp;exact rfl;exact rfl;(apply AT AJ;exact rfl);kernel_rfl;kernel_rfl;kernel_rfl;kernel_rfl;(intro X Y;(repeat (first | exact A4 | refine A5 ?_ (by exact rfl))));(intro w' hs;first|exact AI hs.hold|exact AI hs.hold.tail|exact Ab rfl);intro f X w hp;have hs:=hp.st;refine cl (h:=by exact Ic p.t base _) ?_;rintro v w' ⟨rfl,ho⟩;replace hp:=hp.only ho;replace hs:=hp.st;refine Jn ?_;apply BI 8 12 (f:=f) (X:=X) hX hp;exact rfl;exact rfl;(apply AT AJ;exact rfl);kernel_rfl;kernel_rfl;kernel_rfl;kernel_rfl;(intro X Y;(repeat (first | exact A4 | refine A5 ?_ (by exact rfl))));(intro w' hs;first|exact AI hs.hold|exact AI hs.hold.tail|exact Ab rfl);intro f X w hp;have hs:=hp.st;refine cl (h:=by exact Pe p.w (sn p.t base) (by unfold Ac;omega) om om _) (k:=?_);rw [Pd (by unfold Ac;omega)];rintro v w' ⟨rfl,ho⟩;replace hp:=hp.only ho;replace hs:=hp.st;refine Jn ?_;refine tk 9 hX (hc:=by cases f <;> kernel_rfl) (k:=?_);refine tk 10 hX (hc:=by cases f <;> kernel_rfl) (k:=?_);refine tk 11 hX (hc:=by cases f <;> kernel_rfl) (k:=?_);apply Bb 12 (f:=f) (X:=X) hX hp;exact rfl;(apply AT AJ;exact rfl);kernel_rfl;kernel_rfl;(intro X Y;(repeat (first | exact A4 | refine A5 ?_ (by exact rfl))));(intro w' hs;first|exact AI hs.hold|exact AI hs.hold.tail|exact Ab rfl);intro b w hI hs;refine dt 13 hX ?_
 repeat' (first|refine Nx.h ?_|(refine AV hs ?_;intro w hs)|fail)
 refine dn ?_;refine tk 14 hX ?_;refine en ?_;refine Jb ?_;refine dr [9] hs ?_;intro hX w hs;refine tks 0 4 ?_;refine dt 4 hX ?_;refine AZ hs (h:=by exact OU p.r ⟨Hj,Mq⟩ _) ?_;intro w' ho hs;refine Jn ?_;refine dt 5 hX ?_;refine cl (h:=by exact P5 (p.w*sn p.t base) p.r (by unfold Ac;omega) (by unfold Ac;omega) _) (k:=?_);rw [Pd (x:=p.w*sn p.t base+p.r) h4];rintro v w' ⟨rfl,ho⟩;replace hs:=hs.AP ho;refine Jn ?_;refine tks 6 3 ?_;refine dt 9 hX ?_
 repeat' (first|refine Nx.h ?_|(refine AV hs ?_;intro w hs)|fail)
 refine dn ?_;refine en ?_
 repeat' (first|refine Sa ?_|(refine AV hs ?_;intro w hs)|fail)
 refine AG ?_;exact ⟨rfl,hs.AE rfl⟩
theorem zI (x y:Int) (hx:Ac x) (hy:Ac y) (h:Ac (x+y)) (w0:World):AO prog 144 #[wv x,wv y] w0 fun v w'=>v = .tuple #[wv (x+y),.bool true]∧AB [] w0 w':=by
 have:=P5 x y hx hy w0;rwa [Pd h] at this
theorem Wt (x n:Int) (hx:Ac x) (hn0:-9223372036854775808≤n) (KP:n < 9223372036854775808) (h:Ac (x*n)) (w0:World):AO prog 142 #[wv x,.int .i64 n] w0 fun v w'=>v = .tuple #[wv (x*n),.bool true]∧AB [] w0 w':=by
 have:=Pe x n hx hn0 KP w0;rwa [Pd h] at this
theorem OH (x y:Int) (hx:Ac x) (hy0:0 < y) (hy1:y < 18446744073709551616) (w0:World):AO prog 86 #[wv x,.int .u64 y] w0 fun v w'=>v = .tuple #[wv (x / y),.int .u64 (x % y),.bool true]∧AB [] w0 w':=by
 have:=Z8 x y hx om hy1 w0;unfold Te at this;rwa [if_neg om] at this
theorem div_in {x y:Int} (hx:Ac x) (hy:0 < y):Ac (x / y):=by
 obtain ⟨h1,h2⟩:=hx;unfold Ac;constructor
 ·rw [Int.le_ediv_iff_mul_le hy];have:-170141183460469231731687303715884105728*y≤-170141183460469231731687303715884105728:=by omega
  omega
 ·rw [Int.ediv_lt_iff_lt_mul hy];have:170141183460469231731687303715884105728≤170141183460469231731687303715884105728*y:=by omega
  omega
theorem pL (x y:Int) (hx:Ac x) (hy0:0 < y) (hy1:y < 4294967296) (w0:World):AO prog 86 #[wv x,.int .u64 (IntKind.u64.wrap y)] w0 fun v w'=>v = .tuple #[wv (x / y),.int .u64 (x % y),.bool true]∧AB [] w0 w':=by
 rw [LU ⟨by omega,hy1⟩];exact OH x y hx hy0 om w0
theorem Vk (x:Int) (hx:Ac x) (h:In64 x) (w0:World):AO prog 87 #[wv x] w0 fun v w'=>v = .tuple #[.int .i64 x,.bool true]∧AB [] w0 w':=by
 have:=PG x hx w0;unfold LO at this;rwa [if_pos h] at this
theorem nR (x:Int) (hx:Ac x) (h:¬ In64 x) (w0:World):AO prog 87 #[wv x] w0 fun v w'=>v = .tuple #[.int .i64 0,.bool false]∧AB [] w0 w':=by
 have:=PG x hx w0;unfold LO at this;rwa [if_neg h] at this
def Oj (base d w:Int):Option Pt:=if Eo w=true∧In64 (d / w) then some ⟨lat base (d / w),d % w,w⟩ else none
def Pt.zero:Pt:=⟨0,0,0⟩
def rT (o:Option Pt):Value := .tuple #[pv (o.getD .zero),.bool o.isSome]
theorem Er {w:Int}:Eo w=true↔1≤w∧w≤1048576:=by unfold Eo;simp
theorem at_some {base d w:Int} {p:Pt} (h:Oj base d w=some p):p.In∧p.w=w∧p.right=true:=by
 unfold Oj at h;split at h
 ·rename_i hc;cases h;have h1:=Er.1 hc.1;have m0:=aDe d (show w≠0 by omega);have m1:=aDi d (show 0 < w by omega);refine ⟨⟨Vs _ _,⟨m0,by show d % w < _;omega⟩,by show 0≤w;omega,by show w < _;omega⟩,rfl,?_⟩;unfold Pt.right;simp only [hc.1,Bool.true_and,decide_eq_true_eq];exact m1
 ·cases h
theorem Xj (base d q:Int) (hd:Ac d) (w0:World):AO prog 145 #[.int .u64 base,wv d,.int .u32 q] w0 fun v w'=>v=rT (Oj base d q)∧AB [] w0 w':=by
 have hs:=St.nil w0;refine AS func145 ntmps145 ?_
 repeat' (first|refine Sa ?_|(refine al hs ?_;intro b w hz hs)|(refine bx hs ?_;intro b w hz hs)|fail)
 refine AZ hs (h:=by exact SH q _) ?_;intro w' ho hs;repeat' (first|refine Sa ?_|(refine AV hs ?_;intro w hs)|refine xc_cond rfl (fun hc=>?_) fun hc=>?_|fail)
 ·refine AG ?_;refine ⟨?_,hs.AE rfl⟩;have:Eo q=false:=by simpa using hc
  unfold Oj;rw [this];rfl
 ·have h0:Eo q=true:=by simpa using hc
  have h1:=Er.1 h0;refine AZ hs (h:=by exact pL d q hd om om _) ?_;intro w' ho hs;repeat' (first|refine Sa ?_|(refine AV hs ?_;intro w hs)|(refine al hs ?_;intro b w hz hs)|fail)
  by_cases sS:In64 (d / q)
  ·refine AZ hs (h:=by exact Vk (d / q) (div_in hd om) sS _) ?_;intro w' ho hs;refine Jd ?_;refine AZ hs (h:=by exact Vb base (d / q) _) ?_;intro w' ho hs;repeat' (first|refine Sb ?_|(refine AV hs ?_;intro w hs)|fail)
   refine AG ?_;refine ⟨?_,hs.AE rfl⟩;unfold Oj;rw [if_pos ⟨h0,sS⟩];have e:IntKind.u32.wrap (d % q)=d % q:=aAL ⟨aDe _ om,by have:=aDi d (show 0 < q by omega);omega⟩;rw [e];rfl
  ·refine AZ hs (h:=by exact nR (d / q) (div_in hd om) sS _) ?_;intro w' ho hs;repeat' (first|refine Sc ?_|(refine AV hs ?_;intro w hs)|fail)
   refine AG ?_;refine ⟨?_,hs.AE rfl⟩;unfold Oj;rw [if_neg (fun h=>sS h.2)];rfl
def tot (x:Int):Int:=if Ac x then x else 0
theorem tot_in (x:Int):Ac (tot x):=by unfold tot;split;assumption;decide
theorem NU (x:Int):EW x = .tuple #[wv (tot x),.bool (decide (Ac x))]:=by
 unfold EW tot;split <;> rename_i h <;> simp [h]
theorem dP (x y:Int) (hx:Ac x) (hy:Ac y) (w0:World):AO prog 144 #[wv x,wv y] w0 fun v w'=>v = .tuple #[wv (tot (x+y)),.bool (decide (Ac (x+y)))]∧AB [] w0 w':=by
 have:=P5 x y hx hy w0;rwa [NU] at this
theorem VL (x y:Int) (hx:Ac x) (hy:Ac y) (w0:World):AO prog 169 #[wv x,wv y] w0 fun v w'=>v = .tuple #[wv (tot (x - y)),.bool (decide (Ac (x - y)))]∧AB [] w0 w':=by
 have:=uJ x y hx hy w0;rwa [NU] at this
theorem bT (x n:Int) (hx:Ac x) (hn:In64 n) (w0:World):AO prog 142 #[wv x,.int .i64 n] w0 fun v w'=>v = .tuple #[wv (tot (x*n)),.bool (decide (Ac (x*n)))]∧AB [] w0 w':=by
 have:=Pe x n hx hn.1 hn.2 w0;rwa [NU] at this
theorem aAv (x:Int) (hx:Ac x) (w0:World):AO prog 195 #[wv x] w0 fun v w'=>v = .tuple #[wv (tot (-x)),.bool (decide (Ac (-x)))]∧AB [] w0 w':=by
 have:=tJ x hx w0;rwa [NU] at this
def sml (x:Int):Int:=if In64 x then x else 0
theorem vM (x:Int) (hx:Ac x) (w0:World):AO prog 87 #[wv x] w0 fun v w'=>v = .tuple #[.int .i64 (sml x),.bool (decide (In64 x))]∧AB [] w0 w':=by
 have:=PG x hx w0;have e:LO x = .tuple #[.int .i64 (sml x),.bool (decide (In64 x))]:=by unfold LO sml;split <;> rename_i h <;> simp [h]
 rwa [e] at this
def M1 (p:Pt) (g:Int):Option Pt:=Oj p.t (g+p.r) p.w
theorem RM (p:Pt) (g:Int) (h:p.In) (hg:BY g) (w0:World):AO prog 173 #[pv p,.int .u64 g] w0 fun v w'=>v=rT (M1 p g)∧AB [] w0 w':=by
 obtain ⟨⟨ht0,ht1⟩,⟨Hj,Mq⟩,hw0,hw1⟩:=h;obtain ⟨hg0,hg1⟩:=hg;have hs:=St.nil w0;refine AS func173 ntmps173 ?_
 repeat' (first|refine Sa ?_|(refine al hs ?_;intro b w hz hs)|(refine bx hs ?_;intro b w hz hs)|fail)
 refine dr [] hs ?_;intro hX w hs;refine tk 0 hX ?_;refine tks 2 3 ?_;refine Gq 10 6 hs ?_;intro f X w hp;have hs:=hp.st;apply BI 1 10 (f:=f) (X:=X) hX hp;exact rfl;exact rfl;(apply AT AJ;exact rfl);kernel_rfl;kernel_rfl;kernel_rfl;kernel_rfl;(intro X Y;(repeat (first | exact A4 | refine A5 ?_ (by exact rfl))));(intro w' hs;first|exact AI hs.hold|exact AI hs.hold.tail|exact Ab rfl);intro f X w hp;have hs:=hp.st;refine cl (h:=by exact Pn g om om _) ?_;rintro v w' ⟨rfl,ho⟩;replace hp:=hp.only ho;replace hs:=hp.st;refine Jn ?_;apply BI 5 10 (f:=f) (X:=X) hX hp;exact rfl;exact rfl;(apply AT AJ;exact rfl);kernel_rfl;kernel_rfl;kernel_rfl;kernel_rfl;(intro X Y;(repeat (first | exact A4 | refine A5 ?_ (by exact rfl))));(intro w' hs;first|exact AI hs.hold|exact AI hs.hold.tail|exact Ab rfl);intro f X w hp;have hs:=hp.st;refine cl (h:=by exact OU p.r ⟨Hj,Mq⟩ _) ?_;rintro v w' ⟨rfl,ho⟩;replace hp:=hp.only ho;replace hs:=hp.st;refine Jn ?_;apply BI 6 10 (f:=f) (X:=X) hX hp;exact rfl;exact rfl;(apply AT AJ;exact rfl);kernel_rfl;kernel_rfl;kernel_rfl;kernel_rfl;(intro X Y;(repeat (first | exact A4 | refine A5 ?_ (by exact rfl))));(intro w' hs;first|exact AI hs.hold|exact AI hs.hold.tail|exact Ab rfl);intro f X w hp;have hs:=hp.st;refine cl (h:=by exact zI g p.r (by unfold Ac;omega) (by unfold Ac;omega) (by unfold Ac;omega) _) (k:=?_);rintro v w' ⟨rfl,ho⟩;replace hp:=hp.only ho;replace hs:=hp.st;refine Jn ?_;refine tk 7 hX (hc:=by cases f <;> kernel_rfl) (k:=?_);refine tk 8 hX (hc:=by cases f <;> kernel_rfl) (k:=?_);refine tk 9 hX (hc:=by cases f <;> kernel_rfl) (k:=?_);apply Bb 10 (f:=f) (X:=X) hX hp;exact rfl;(apply AT AJ;exact rfl);kernel_rfl;kernel_rfl;(intro X Y;(repeat (first | exact A4 | refine A5 ?_ (by exact rfl))));(intro w' hs;first|exact AI hs.hold|exact AI hs.hold.tail|exact Ab rfl);intro b w hI hs;refine dt 11 hX ?_
 repeat' (first|refine Nx.h ?_|(refine AV hs ?_;intro w hs)|fail)
 refine dn ?_;refine tk 12 hX ?_;refine en ?_;refine Ja ?_;refine AZ hs (h:=by exact Xj p.t (g+p.r) p.w (by unfold Ac;omega) _) (k:=?_);intro w' ho hs;repeat' (first|refine Sb ?_|(refine AV hs ?_;intro w hs)|fail)
 refine AG ?_;exact ⟨rfl,hs.AE rfl⟩
def JH (p q:Pt):Int:=if C1 0 (sn q.t p.t)=0 then C1 (p.r*q.w) (q.r*p.w) else C1 0 (sn q.t p.t)
theorem eV {a b:Int} (ha:Fb a) (hb:Fb b):IntKind.u64.wrap (IntKind.u64.wrap a*IntKind.u64.wrap b)=a*b:=by
 rw [LU ha,LU hb];refine gT ⟨aDm ha.1 hb.1,?_⟩;have:=mul_rng (w:=a) (s:=b) (W:=4294967296) (S:=4294967296) ha.1 (aDb ha.2) (by have:=hb.1;omega) (aDb hb.2);have h1:=ha.2;have h2:a*b≤a*4294967295:=aDn (by have:=hb.2;omega) ha.1;omega
theorem WQ (p q:Pt) (hp':p.In) (hq:q.In) (w0:World):AO prog 212 #[pv p,pv q] w0 fun v w'=>v = .int .i64 (JH p q)∧AB [] w0 w':=by
 have hs:=St.nil w0;refine AS func212 ntmps212 ?_
 repeat' (first|refine Sa ?_|(refine bx hs ?_;intro b w hz hs)|fail)
 refine dr [] hs ?_;intro hX w hs;refine tks 0 4 ?_;refine tks 6 14 ?_;refine E4 17 (congrArg (Value.int .u64) (eV hp'.2.1 hq.2.2)) ?_;refine E4 24 (congrArg (Value.int .u64) (eV hq.2.1 hp'.2.2)) ?_;refine dt 4 hX ?_;refine AZ hs (h:=by exact Ic q.t p.t _) ?_;intro w' ho hs;refine Jn ?_;refine dt 5 hX ?_;refine AZ hs (h:=by exact PF 0 (sn q.t p.t) _) ?_;intro w' ho hs;refine Jn ?_;refine dt 20 hX ?_;refine AZ hs (h:=by exact OT (p.r*q.w) (q.r*p.w) _) ?_;intro w' ho hs;refine Jn ?_;refine dt 21 hX ?_
 repeat' (first|refine Nx.h ?_|(refine bs hs ?_;intro b w hz hs)|fail)
 refine dn ?_;refine dt 22 hX ?_;refine AZ hs (h:=by exact dZ _ _ _ _ _ (hs.get At.head)) ?_;intro w' ho hs;refine Jn ?_;refine tk 23 hX ?_;refine en ?_;refine Jb ?_;refine AG ?_;exact ⟨rfl,hs.AE rfl⟩
def Pt.shift (p:Pt) (by_:Int):Pt:=⟨lat p.t by_,p.r,p.w⟩
theorem cM (p:Pt) (d:Int) (w0:World):AO prog 260 #[pv p,.int .u64 d] w0 fun v w'=>v=pv (p.shift d)∧AB [] w0 w':=by
 have hs:=St.nil w0;refine AS func260 ntmps260 ?_
 repeat' (first|refine Sa ?_|(refine st hs ?_;intro w hs)|(refine AV hs ?_;intro w hs)|(refine al hs ?_;intro b w hz hs)|(refine bx hs ?_;intro b w hz hs)|fail)
 refine AG ?_;refine ⟨?_,hs.AE rfl⟩;unfold Pt.shift pv lat packed;rw [wrap_u64]
structure It where
 p:Pt
 id:Int
 d:Pt
deriving DecidableEq
abbrev It.cells (a:It):List Value:=[.int .u64 a.p.t,.int .u32 a.p.r,.int .u32 a.p.w,.int .i64 a.id,.int .u64 a.d.t,.int .u32 a.d.r,.int .u32 a.d.w]
def iv (a:It):Value := .agg #[.int .u64 a.p.t,.int .u32 a.p.r,.int .u32 a.p.w,.int .i64 a.id,.int .u64 a.d.t,.int .u32 a.d.r,.int .u32 a.d.w]
def It.In (a:It):Prop:=a.p.In∧In64 a.id∧a.d.In
instance (a:It):Decidable a.In:=by unfold It.In;infer_instance
def It.zero:It:=⟨.zero,0,.zero⟩
def It.right (a:It):Bool:=a.p.right && a.d.right && decide (a.p.w=a.d.w) && decide (0 < a.id) && decide (0≤sn a.d.t a.p.t) && decide (sn a.d.t a.p.t≤1152921504606846976)
theorem N1 (a:It) (w0:World):AO prog 190 #[iv a] w0 fun v w'=>v = .bool a.right∧AB [] w0 w':=by
 have hs:=St.nil w0;refine AS func190 ntmps190 ?_
 repeat' (first|refine Sa ?_|(refine bx hs ?_;intro b w hz hs)|fail)
 refine AZ hs (h:=by exact Ic a.d.t a.p.t _) ?_;intro w' ho hs;refine Ja ?_;refine AZ hs (h:=by exact FG a.p _) ?_;intro w' ho hs;repeat' (first|refine vs ?_|refine ps ?_|refine Nx.h ?_|((with_reducible apply BV);exact rfl;exact rfl;intro c hc;(fail_if_success have:true=c:=hc);(fail_if_success have:false=c:=hc);cases c)|fail)
 ·refine AG ?_;refine ⟨?_,hs.AE rfl⟩;clear hs;unfold It.right packed
  simp_all
 ·refine AZ hs (h:=by exact FG a.d _) ?_;intro w' ho hs;repeat' (first|refine vs ?_|refine ps ?_|refine Nx.h ?_|((with_reducible apply BV);exact rfl;exact rfl;intro c hc;(fail_if_success have:true=c:=hc);(fail_if_success have:false=c:=hc);cases c)|fail)
  all_goals (refine AG ?_)
  all_goals refine ⟨?_,hs.AE rfl⟩
  all_goals clear hs
  all_goals (unfold It.right packed;simp_all <;> omega)
def ahead (a b:It):Bool:=decide (JH a.p b.p < 0) || (decide (JH a.p b.p=0) && decide (a.id < b.id))
theorem UT (x y:It) (ha:x.In) (hb:y.In) (w0:World):AO prog 176 #[iv x,iv y] w0 fun v w'=>v = .bool (ahead x y)∧AB [] w0 w':=by
 have hs:=St.nil w0;refine AS func176 ntmps176 ?_
 repeat' (first|refine Sa ?_|(refine bx hs ?_;intro b w hz hs)|fail)
 refine AZ hs (h:=by exact WQ x.p y.p ha.1 hb.1 _) ?_;intro w' ho hs;repeat' (first|refine Sf ?_|((with_reducible apply BV);exact rfl;exact rfl;intro c hc;(fail_if_success have:true=c:=hc);(fail_if_success have:false=c:=hc);cases c)|fail)
 all_goals (refine AG ?_)
 all_goals refine ⟨?_,hs.AE rfl⟩
 all_goals clear hs
 all_goals (unfold ahead packed;simp_all)
def due (a b:It):Bool:=decide (JH a.d b.d < 0) || (decide (JH a.d b.d=0) && ahead a b)
theorem T8 (x y:It) (ha:x.In) (hb:y.In) (w0:World):AO prog 233 #[iv x,iv y] w0 fun v w'=>v = .bool (due x y)∧AB [] w0 w':=by
 have hs:=St.nil w0;refine AS func233 ntmps233 ?_
 repeat' (first|refine Sa ?_|(refine bx hs ?_;intro b w hz hs)|fail)
 refine AZ hs (h:=by exact WQ x.d y.d ha.2.2 hb.2.2 _) ?_;intro w' ho hs;repeat' (first|refine Sf ?_|((with_reducible apply BV);exact rfl;exact rfl;intro c hc;(fail_if_success have:true=c:=hc);(fail_if_success have:false=c:=hc);cases c)|fail)
 ·refine AG ?_;refine ⟨?_,hs.AE rfl⟩;clear hs;unfold due packed;simp_all
 ·refine AZ hs (h:=by exact UT x y ha hb _) ?_;intro w' ho hs;refine Jc ?_;refine AG ?_;refine ⟨?_,hs.AE rfl⟩;clear hs;unfold due packed;simp_all
 ·refine AG ?_;refine ⟨?_,hs.AE rfl⟩;clear hs;unfold due packed;simp_all
theorem DP {i m:Nat} (h:i < m) (hm:m≤9223372036854775807):IntKind.i64.wrap ((i:Int)+1)=((i+1:Nat):Int):=by
 rw [wrap_i64];omega
def Xm (w:World) (v:Value) (ps:List Pt):Prop:=Cu w 62 3 v (ps.map Pt.cells)
def JU (w:World) (v:Value) (l:List It):Prop:=Cu w 64 7 v (l.map It.cells)
def sinces (base:Int) (ps:List Pt):List Int:=ps.map fun p=>sn p.t base
theorem uH {l:List Int} (h:∀ d∈l,In64 d):In64 (IX l):=by
 cases l with
 | nil=>decide
 | cons d l =>
   have:∀ (l:List Int) (a:Int),In64 a→(∀ d∈l,In64 d)→In64 (l.foldl (fun a b=>if b < a then b else a) a):=by
    intro l
    induction l with
    | nil=>intro a ha _;exact ha
    | cons b l ih =>
      intro a ha hl;refine ih _ ?_ (fun d hd=>hl d (aCy _ hd));show In64 (if b < a then b else a);split
      ·exact hl b aCw
      ·exact ha
   exact this l d (h d aCw) fun x hx=>h x (aCy _ hx)
theorem tM {l:List Int} (h:∀ d∈l,In64 d):In64 (I3 l):=by
 cases l with
 | nil=>decide
 | cons d l =>
   have:∀ (l:List Int) (a:Int),In64 a→(∀ d∈l,In64 d)→In64 (l.foldl (fun a b=>if b > a then b else a) a):=by
    intro l
    induction l with
    | nil=>intro a ha _;exact ha
    | cons b l ih =>
      intro a ha hl;refine ih _ ?_ (fun d hd=>hl d (aCy _ hd));show In64 (if b > a then b else a);split
      ·exact hl b aCw
      ·exact ha
   exact this l d (h d aCw) fun x hx=>h x (aCy _ hx)
theorem CH {α:Type} {l:List α} {i:Nat} (h:i < l.length):l.take (i+1)=l.take i ++ [l[i]]:=by simp
theorem TA (base:Int) (ps:List Pt) (sl:Value) (hm:ps.length≤9223372036854775807) (w0:World) (hP:Xm w0 sl ps) :
 AO prog 235 #[.int .u64 base,sl] w0 fun v w'=>v = .tuple #[.int .i64 (IX (sinces base ps)),.int .i64 (I3 (sinces base ps))]∧AB [] w0 w':=by
 obtain ⟨ad,cap,rfl,hD⟩:=hP;rw [aC0] at *;have hs:=St.nil w0;refine AS func235 ntmps235 ?_;refine Ja ?_;refine BM (fun (_:Unit)=>[(4,.int .i64 (IX (sinces base ps))),(5,.int .i64 (I3 (sinces base ps)))]) (fun _ w=>St w0 D0 [] w) ?_ ?_
 ·refine BH (fun (i:Nat)=>[(0,.int .u64 base),(4,.int .i64 (IX (sinces base (ps.take i)))),(5,.int .i64 (I3 (sinces base (ps.take i)))),(9,.slice ad ps.length cap),(10,.int .i64 (ps.length:Nat)),(11,.int .i64 (i:Nat))])
   (fun i w=>i≤ps.length∧St w0 D0 [] w) (fun i=>ps.length - i) 0 Ad ⟨aC7 _,hs⟩ fun i env w ⟨hi,hs⟩=>?_
  repeat' (first|refine Sa ?_|refine Aw rfl (fun hc=>?_) fun hc=>?_|fail)
  ·have hlt:i < ps.length:=by omega
   obtain ⟨b,off,cs,fz,rfl,_,hb,hcs⟩:=hD (fun h=>by simp at h;subst h;cases hlt);have hpk:=hcs i (Pt.cells ps[i]) (by rw [aC8,aC3 hlt];rfl);have Q6:sinces base (ps.take (i+1))=sinces base (ps.take i) ++ [sn ps[i].t base]:=by rw [CH hlt];unfold sinces;rw [aDa];rfl
   have h0:sinces base (ps.take i)=[]↔i=0:=by
    unfold sinces;rw [List.map_eq_nil_iff,List.take_eq_nil_iff];constructor
    ·rintro (h | h)
     ·exact h
     ·subst h;simp at hlt
    ·exact .inl
   have WH:=jB (sinces base (ps.take i)) (sn ps[i].t base);have X7:=iL (sinces base (ps.take i)) (sn ps[i].t base);rw [← Q6] at WH X7;have ei:=DP hlt hm;generalize ps[i]=p at *;refine ix (h0:=(by omega)) (h1:=(by omega)) ?_;refine Ia ((hs.AE rfl).block hb AA) hpk ?_;refine al hs ?_;intro b7 w hz hs
   repeat' (first|refine Sa ?_|(refine AV hs ?_;intro w hs)|fail)
   refine AZ hs (h:=by exact Ic p.t base _) ?_;intro w' ho hs;repeat' (first|refine Sa ?_|refine Aw rfl (fun hc=>?_) fun hc=>?_|fail)
   ·have hi0:i=0:=by omega
    rw [if_pos (h0.2 hi0)] at WH X7;have e1:(if sn p.t base < sn p.t base then sn p.t base else sn p.t base)=IX (sinces base (ps.take (i+1))):=by rw [WH];split <;> rfl
    have e2:(if sn p.t base > sn p.t base then sn p.t base else sn p.t base)=I3 (sinces base (ps.take (i+1))):=by rw [X7];split <;> rfl
    exact A2 (i+1) om (by (repeat (first | exact Ag | (apply A8;first | exact rfl | exact congrArg (Value.int .i64) e1 | exact congrArg (Value.int .i64) e2 | exact congrArg (Value.int .i64) ei)))) ⟨by omega,hs.Bx⟩
   ·have hi0:¬ i=0:=by omega
    rw [if_neg (fun h=>hi0 (h0.1 h))] at WH X7;exact A2 (i+1) om (by (repeat (first | exact Ag | (apply A8;first | exact rfl | exact congrArg (Value.int .i64) WH.symm | exact congrArg (Value.int .i64) X7.symm | exact congrArg (Value.int .i64) ei)))) ⟨by omega,hs.Bx⟩
  ·have e:i=ps.length:=by omega
   rw [e,aDK];exact Au () Ad hs
 ·rintro _ env w hs;refine Ja ?_;refine AG ?_;exact ⟨rfl,hs.AE rfl⟩
def soonest (a:It) (l:List It):It:=l.foldl (fun a b=>bif due b a then b else a) a
theorem Xk (a:It) (l:List It) (b:It):soonest a (l ++ [b])=bif due b (soonest a l) then b else soonest a l:=by unfold soonest;rw [aDh];rfl
theorem aP {a:It} (ha:a.In):∀ {l:List It},(∀ b∈l,b.In)→(soonest a l).In:=by
 intro l;unfold soonest
 induction l generalizing a with
 | nil=>intro _;exact ha
 | cons b l ih =>
   intro hl;refine ih ?_ (fun c hc=>hl c (aCy _ hc));show (bif due b a then b else a).In;cases due b a
   ·exact ha
   ·exact hl b aCw
theorem Yg (x:It) (l:List It) (sl:Value) (hx:x.In) (hl:∀ b∈l,b.In) (hm:l.length≤9223372036854775807) (w0:World) (hP:JU w0 sl l) :
 AO prog 213 #[iv x,sl] w0 fun v w'=>v=iv (soonest x l)∧AB [] w0 w':=by
 obtain ⟨ad,cap,rfl,hD⟩:=hP;rw [aC0] at *;have hs:=St.nil w0;refine AS func213 ntmps213 ?_;refine Ah ?_;refine Aq ?_;refine bx hs ?_;intro b2 w hz hs;refine al hs ?_;intro b4 w hz hs;refine Ja ?_;refine BM (fun (_:Unit)=>[(2,.pointer (some ⟨b2,0,none⟩)),(4,.pointer (some ⟨b4,0,none⟩))]) (fun _ w=>St w0 D0 [(b4,.cells It.zero.cells.toArray 64,true),(b2,.cells (soonest x l).cells.toArray 64,true)] w) ?_ ?_
 ·refine BH (fun (i:Nat)=>[(2,.pointer (some ⟨b2,0,none⟩)),(4,.pointer (some ⟨b4,0,none⟩)),(7,.slice ad l.length cap),(8,.int .i64 (l.length:Nat)),(9,.int .i64 (i:Nat))])
   (fun i w=>i≤l.length∧St w0 D0 [(b4,.cells It.zero.cells.toArray 64,true),(b2,.cells (soonest x (l.take i)).cells.toArray 64,true)] w) (fun i=>l.length - i) 0 Ad ⟨aC7 _,hs⟩ fun i env w ⟨hi,hs⟩=>?_
  repeat' (first|refine Sa ?_|refine Aw rfl (fun hc=>?_) fun hc=>?_|fail)
  ·have hlt:i < l.length:=by omega
   obtain ⟨b,off,cs,fz,rfl,_,hb,hcs⟩:=hD (fun h=>by simp at h;subst h;cases hlt);have hpk:=hcs i (It.cells l[i]) (by rw [aC8,aC3 hlt];rfl);have Kh:=Xk x (l.take i) l[i];rw [← CH hlt] at Kh;have hin:=hl l[i] (aDS hlt);have aA1:=aP hx (l:=l.take i) (fun c hc=>hl c (List.mem_of_mem_take hc));have ei:=DP hlt hm;generalize l[i]=q at *;generalize soonest x (l.take i)=y at *;refine ix (h0:=(by omega)) (h1:=(by omega)) ?_;refine Ia ((hs.AE rfl).block hb AA) hpk ?_;refine al hs ?_;intro b6 w hz hs
   repeat' (first|refine Sa ?_|(refine AV hs ?_;intro w hs)|fail)
   refine AZ hs (h:=by exact T8 q y hin aA1 _) ?_;intro w' ho hs;repeat' (first|refine Sa ?_|(refine AV hs ?_;intro w hs)|refine xc_cond rfl (fun hc=>?_) fun hc=>?_|fail)
   ·rw [hc,cond_true] at Kh;exact A2 (i+1) om (by (repeat (first | exact Ag | (apply A8;first | exact rfl | exact congrArg (Value.int .i64) ei)))) ⟨by omega,by rw [Kh];exact hs.Bx⟩
   ·rw [hc,cond_false] at Kh;exact A2 (i+1) om (by (repeat (first | exact Ag | (apply A8;first | exact rfl | exact congrArg (Value.int .i64) ei)))) ⟨by omega,by rw [Kh];exact hs.Bx⟩
  ·have e:i=l.length:=by omega
   rw [e,aDK] at hs;exact Au () Ad hs
 ·rintro _ env w hs
  repeat' (first|refine Sa ?_|(refine AV hs ?_;intro w hs)|fail)
  refine AG ?_;exact ⟨rfl,hs.AE rfl⟩
end Go.Proofs.Q0
namespace Go.Proofs.Q0
open Go Go.RowKit Tryz
def Sj (w:World) (k:Nat) (v:Value) (xs:List (List Value)):Prop :=
 ∃ ad cap,v = .slice ad xs.length cap∧(xs≠[]→∃ (b off:Nat) (cs:List Value) (E:TypeId) (fz:Nat × Nat),ad=some ⟨b,off,none⟩∧w.heap[b]?=some (.cells cs.toArray E fz)∧∀ (i:Nat) x,xs[i]?=some x→Dk cs (off+i*k) k x)
theorem Sj.only {w w':World} {k:Nat} {v:Value} {xs:List (List Value)} (h:Sj w k v xs) (ho:AB [] w w'):Sj w' k v xs:=by
 obtain ⟨ad,cap,rfl,h⟩:=h;refine ⟨ad,cap,rfl,fun hn=>?_⟩;obtain ⟨b,off,cs,E,fz,h1,h2,h3⟩:=h hn;exact ⟨b,off,cs,E,fz,h1,ho.block h2 AA,h3⟩
theorem Cu.x {w:World} {E k:Nat} {v:Value} {xs:List (List Value)} (h:Cu w E k v xs):Sj w k v xs:=by
 obtain ⟨ad,cap,rfl,h⟩:=h;refine ⟨ad,cap,rfl,fun hn=>?_⟩;obtain ⟨b,off,cs,fz,h1,_,h2,h3⟩:=h hn;exact ⟨b,off,cs,E,fz,h1,h2,h3⟩
end Go.Proofs.Q0
namespace Go.Proofs.Q0
open Go Go.RowKit Go.ChangeShapes Go.WideShapes Go.ChangeAt Tryz
theorem Ry {w:World} {a:Addr} {v:Value} (h:w.cell? a=some v):∃ cs E fz,w.heap[a.block]?=some (.cells cs E fz)∧a.spot=none∧cs[a.off]?=some v:=by
 unfold World.cell? at h;split at h
 ·rename_i cs E fz hb;split at h
  ·cases h
  ·rename_i hs;exact ⟨cs,E,fz,hb,by simpa using hs,h⟩
 ·cases h
theorem cell_of_block {w:World} {a:Addr} {v:Value} {cs:Array Value} {E:TypeId} {fz:Nat × Nat} (h:w.cell? a=some v) (hb:w.heap[a.block]?=some (.cells cs E fz)):cs[a.off]?=some v:=by
 obtain ⟨cs',E',lM,h1,_,h2⟩:=Ry h;rw [hb] at h1;cases h1;exact h2
theorem Wm (b o k:Nat):(⟨b,o,none⟩:Addr).add k=⟨b,o+k,none⟩:=by
 unfold Addr.add;split <;> simp_all
theorem Pg {x:Int} (h:Lit.wf (.int .i64 x)=true):In64 x:=by
 have h:IntKind.i64.min≤x∧x≤IntKind.i64.max:=by simpa [Lit.wf] using h
 have e1:IntKind.i64.min=-9223372036854775808:=rfl;have e2:IntKind.i64.max=9223372036854775807:=rfl;unfold In64;omega
theorem Mo {x:Int} (h:Lit.wf (.int .u64 x)=true):BY x:=by
 have h:IntKind.u64.min≤x∧x≤IntKind.u64.max:=by simpa [Lit.wf] using h
 have e1:IntKind.u64.min=0:=rfl;have e2:IntKind.u64.max=18446744073709551615:=rfl;unfold BY;omega
theorem aAF {x:Int} (h:Lit.wf (.int .u8 x)=true):0≤x∧x < 256:=by
 have h:IntKind.u8.min≤x∧x≤IntKind.u8.max:=by simpa [Lit.wf] using h
 have e1:IntKind.u8.min=0:=rfl;have e2:IntKind.u8.max=255:=rfl;omega
theorem pick_at {cs:List Value}:∀ {vs:List Value} {off m:Nat},vs.length=m→(∀ j,j < m→cs[off+j]?=vs[j]?)→Dk cs off m vs
 | [],off,m,hm,h=>by subst hm;exact .nil
 | v :: vs,off,m,hm,h=>by
   subst hm;refine .cons (by have:=h 0 AA;simpa using this) (pick_at rfl fun j hj=>?_);have:=h (j+1) (by simp;omega);rw [show off+1+j=off+(j+1) by omega];simpa using this
theorem open_rows {H:Type} {enc:TypeId × Value→H} {W:World} {r:Reach} {b0 base:Nat} {spare:Nat→Bool} {held:Bool} {v:Value} {d:DataW H} {p:List MemPlace} {α:Type} [Inhabited α] {t e k:Nat} {cells:α→List Value} {Q:α→Prop}
 (ht:prog.underlying t=some (.slice e)) (ce:prog.cellsOf e=k) (hk:0 < k) (hlen:∀ q,(cells q).length=k)
 (dec:∀ (fuel:Nat) (cs:List Value) x,DataW.trod enc prog W base spare held fuel e cs=some x→∃ q,cs=cells q∧Q q)
 (hv:Value.okWide prog W r b0 t v) (h:DataW.Trod enc prog W base spare held t v d p):∃ xs:List α,Sj W k v (xs.map cells)∧∀ a∈xs,Q a:=by
 obtain ⟨a0,len,cap,rfl⟩:=okWide_slice ht hv;obtain ⟨fuel,hf⟩:=h;rcases Deep.open_slice ht hf with ⟨hc,hx⟩ | ⟨a,len',cap',m,n,D,Pl,hc,hb,hl,hm,hmm,hx,hall⟩
 ·obtain ⟨rfl,rfl,rfl⟩:a0=none∧len=0∧cap=0:=by injection hc with h1 h2;injection h1 with h1 h2 h3;exact ⟨h1,h2,h3⟩
  exact ⟨[],⟨none,0,rfl,fun h=>absurd rfl h⟩,by simp⟩
 ·obtain ⟨rfl,rfl,rfl⟩:a0=some a∧len=len'∧cap=cap':=by injection hc with h1 h2;injection h1 with h1 h2 h3;exact ⟨h1,h2,h3⟩
  have hlm:len≤m:=by rw [hmm];split <;> omega
  have each:∀ i,i < len→∃ q:α,W.cells? base (a.add (i*k)) k=some (cells q)∧Q q:=fun i hi=>by
   obtain ⟨cs',h1,h2⟩:=hall i om;obtain ⟨q,rfl,hq⟩:=dec _ _ _ h2;rw [ce] at h1;exact ⟨q,h1,hq⟩
  obtain ⟨f,hfq⟩:=Deep.choose_lt each;refine ⟨(List.range len).map f,⟨some a,cap,by simp,fun hn=>?_⟩,fun x hx=>by obtain ⟨i,hi,rfl⟩:=List.mem_map.1 hx;exact (hfq i (List.mem_range.1 hi)).2⟩
  have h0:0 < len:=by
   rcases aD2 len with h0 | h0
   ·subst h0;exact absurd rfl hn
   ·exact h0
  have hcell:∀ i,i < len→∀ j,j < k→W.cell? ((a.add (i*k)).add j)=(cells (f i))[j]?:=fun i hi=>(World.cells?_some (hfq i hi).1).2.2;have hc0:=hcell 0 h0 0 hk;rw [aC3 (by rw [hlen];exact hk)] at hc0;obtain ⟨cs,E,fz,hb',hsp,_⟩:=Ry hc0;obtain ⟨ab,ao,asp⟩:=a;have e0:((⟨ab,ao,asp⟩:Addr).add (0*k)).add 0=⟨ab,ao,asp⟩:=by simp [Addr.add]
  rw [e0] at hb' hsp;obtain rfl:asp=none:=hsp;refine ⟨ab,ao,cs.toList,E,fz,rfl,by simpa using hb',fun i x hx=>?_⟩
  have hi:i < len:=by
   rcases aDL i len with h1 | h1
   ·exact h1
   ·rw [aDY (by simpa using h1)] at hx;cases hx
  have hx':cells (f i)=x:=by
   rw [aC8,aC8,List.getElem?_range hi] at hx;exact aDo hx
  subst hx';refine pick_at (hlen _) fun j hj=>?_;have g0:=hcell i hi j hj;rw [Wm,Wm] at g0;have g1:(cells (f i))[j]?=some ((cells (f i))[j]'(by rw [hlen];exact hj)):=aC3 _;rw [g1] at g0;have:=cell_of_block g0 hb';rw [g1];simpa [Nat.add_assoc] using this
end Go.Proofs.Q0
namespace Go.Proofs.Q0
structure Cw {α:Type} (lt:α→α→Bool) (S:α→Prop):Prop where
 irr:∀ a,S a→lt a a=false
 tr:∀ a b c,S a→S b→S c→lt a b=true→lt b c=true→lt a c=true
 tri:∀ a b,S a→S b→lt a b=false→lt b a=false→a=b
inductive RB (α:Type) where
 | nil
 | node (l:RB α) (x:α) (r:RB α) (c:Bool)
namespace RB
variable {α : Type}
def red:RB α→Bool
 | nil=>false
 | node _ _ _ c=>c
def left:RB α→RB α
 | nil=>nil
 | node l _ _ _=>l
def right:RB α→RB α
 | nil=>nil
 | node _ _ r _=>r
def list:RB α→List α
 | nil=>[]
 | node l x r _=>l.list ++ x :: r.list
def depth:RB α→Nat
 | nil=>0
 | node l _ r _=>1+max l.depth r.depth
def G7:RB α→RB α
 | node l x (node rl y rr _) c=>node (node l x rl true) y rr c
 | t=>t
def DD:RB α→RB α
 | node (node ll y lr _) x r c=>node ll y (node lr x r true) c
 | t=>t
def flip:RB α→RB α
 | node (node a x b c1) y (node d z e c2) c=>node (node a x b !c1) y (node d z e !c2) !c
 | t=>t
def Db (t:RB α):RB α:=bif t.right.red && !t.left.red then G7 t else t
def EK (t:RB α):RB α:=bif t.left.red && t.left.left.red then DD t else t
def EH (t:RB α):RB α:=bif t.left.red && t.right.red then flip t else t
def mend (t:RB α):RB α:=EH (EK (Db t))
def ins (lt:α→α→Bool):RB α→α→RB α
 | nil,x=>node nil x nil true
 | node l y r c,x=>bif lt x y then mend (node (ins lt l x) y r c) else mend (node l y (ins lt r x) c)
def blacken:RB α→RB α
 | nil=>nil
 | node l x r _=>node l x r false
theorem Av (l:RB α) (x:α) (r:RB α) (c:Bool):(node l x r c).left=l:=rfl
theorem BE (l:RB α) (x:α) (r:RB α) (c:Bool):(node l x r c).right=r:=rfl
theorem BS (l:RB α) (x:α) (r:RB α) (c:Bool):(node l x r c).red=c:=rfl
theorem KB:∀ t:RB α,(G7 t).list=t.list
 | nil=>rfl
 | node l x nil c=>rfl
 | node l x (node rl y rr _) c=>by simp [G7,list]
theorem HJ:∀ t:RB α,(DD t).list=t.list
 | nil=>rfl
 | node nil x r c=>rfl
 | node (node ll y lr _) x r c=>by simp [DD,list]
theorem HD:∀ t:RB α,(flip t).list=t.list
 | nil=>rfl
 | node nil x r c=>rfl
 | node (node a x b _) y nil c=>rfl
 | node (node a x b _) y (node d z e _) c=>by simp [flip,list]
theorem DK (t:RB α):(mend t).list=t.list:=by
 unfold mend EH EK Db
 repeat' (cases (_ && _) <;> simp only [cond_true,cond_false])
 all_goals simp only [KB,HJ,HD]
theorem Iu:∀ t:RB α,(blacken t).list=t.list
 | nil=>rfl
 | node l x r c=>rfl
def IZ (lt:α→α→Bool) (x:α):List α→List α
 | []=>[x]
 | y :: l=>bif lt x y then x :: y :: l else y :: IZ lt x l
theorem Uc {lt:α→α→Bool} {x y:α} (h:lt x y=true) (R:List α):∀ L:List α,IZ lt x (L ++ y :: R)=IZ lt x L ++ y :: R
 | []=>by simp [IZ,h]
 | z :: L=>by
   simp only [aDR,IZ];cases lt x z <;> simp [Uc h R L]
theorem S5 {lt:α→α→Bool} {x:α} (R:List α):∀ L:List α,(∀ z∈L,lt x z=false)→IZ lt x (L ++ R)=L ++ IZ lt x R
 | [],_=>rfl
 | z :: L,h=>by
   simp only [aDR,IZ,h z aCw,cond_false];rw [S5 R L fun z hz=>h z (aCy _ hz)]
def Ki (lt:α→α→Bool) (l:List α):Prop:=l.Pairwise fun a b=>lt a b=true
theorem I1 {lt:α→α→Bool} {L R:List α} {y:α} (h:Ki lt (L ++ y :: R)):Ki lt L∧Ki lt R∧(∀ z∈L,lt z y=true)∧(∀ z∈R,lt y z=true)∧∀ a∈L,∀ b∈R,lt a b=true:=by
 unfold Ki at *;rw [List.pairwise_append,List.pairwise_cons] at h;obtain ⟨h1,⟨h2,h3⟩,h4⟩:=h;exact ⟨h1,h3,fun z hz=>h4 z hz y aCw,h2,fun a ha b hb=>h4 a ha b (aCy _ hb)⟩
theorem asym {lt:α→α→Bool} {S:α→Prop} (ho:Cw lt S) {a b:α} (ha:S a) (hb:S b) (h:lt a b=true):lt b a=false:=by
 cases h2:lt b a
 ·rfl
 ·have h3:=ho.tr a b a ha hb ha h h2;rw [ho.irr a ha] at h3;cases h3
theorem RZ {lt:α→α→Bool} {S:α→Prop} (ho:Cw lt S) {x:α} (hx:S x):∀ t:RB α,Ki lt t.list→(∀ z∈t.list,S z)→(ins lt t x).list=IZ lt x t.list
 | nil,_,_=>rfl
 | node l y r c,hs,hS=>by
   obtain ⟨h1,h2,h3,h4,h5⟩:=I1 hs;simp only [list,aC4,aCu] at hS;have hl:=RZ ho hx l h1 fun z hz=>hS z (.inl hz);have hr:=RZ ho hx r h2 fun z hz=>hS z (.inr (.inr hz));have hy:=hS y (.inr (.inl rfl));simp only [ins,list];cases hxy:lt x y
   ·rw [cond_false,DK];simp only [list,hr];rw [S5 _ l.list fun z hz=>?_]
    ·simp [IZ,hxy]
    ·have PT:=hS z (.inl hz);cases hxz:lt x z
     ·rfl
     ·rw [ho.tr x z y hx PT hy hxz (h3 z hz)] at hxy;cases hxy
   ·rw [cond_true,DK];simp only [list,hl];rw [Uc hxy]
inductive Ok:RB α→Nat→Prop
 | nil:Ok nil 0
 | black {l r:RB α} {x:α} {h:Nat}:Ok l h→Ok r h→r.red=false→Ok (node l x r false) (h+1)
 | red {l r:RB α} {x:α} {h:Nat}:Ok l h→Ok r h→l.red=false→r.red=false→Ok (node l x r true) h
inductive ZR:RB α→Nat→Prop
 | ok {t:RB α} {h:Nat}:Ok t h→ZR t h
 | rr {l r:RB α} {x:α} {h:Nat}:Ok l h→Ok r h→l.red=true→r.red=false→ZR (node l x r true) h
theorem Ok.blacken {t:RB α} {h:Nat} (k:Ok t h):∃ h',Ok (blacken t) h':=by
 cases k with
 | nil=>exact ⟨_,.nil⟩
 | black a b c=>exact ⟨_,.black a b c⟩
 | red a b c d=>exact ⟨_,.black a b d⟩
theorem Bt {t:RB α} (h:t.red=true):∃ l x r,t=node l x r true:=by
 cases t with
 | nil=>cases h
 | node l x r c=>exact ⟨l,x,r,by rw [show c=true from h]⟩
theorem Ok.Ek {l r:RB α} {x:α} {h:Nat} (k:Ok (node l x r true) h):Ok l h∧Ok r h∧l.red=false∧r.red=false:=by
 cases k with
 | red a b c d=>exact ⟨a,b,c,d⟩
theorem Ok.MO {l r:RB α} {x:α} {h:Nat} (k:Ok (node l x r false) h):∃ h',h=h'+1∧Ok l h'∧Ok r h'∧r.red=false:=by
 cases k with
 | black a b c=>exact ⟨_,rfl,a,b,c⟩
theorem Jy {t:RB α} {h:Nat} (k:Ok t h) (hr:t.red=true):t.left.red=false:=by
 obtain ⟨l,x,r,rfl⟩:=Bt hr;exact k.Ek.2.2.1
theorem Py {l r:RB α} {y:α} {h:Nat} (hl:ZR l h) (hr:Ok r h) (h1:r.red=false):Ok (mend (node l y r false)) (h+1):=by
 cases hl with
 | ok hl =>
   have hlr:(l.red && l.left.red)=false:=by
    cases hc:l.red
    ·rfl
    ·rw [Jy hl hc];rfl
   have:mend (node l y r false)=node l y r false:=by
    simp [mend,Db,EK,EH,Av,BE,BS,h1,hlr]
   rw [this];exact .black hl hr h1
 | rr a b c d =>
   obtain ⟨ll,z,lr,rfl⟩:=Bt c;obtain ⟨p1,p2,p3,p4⟩:=a.Ek;simp [mend,Db,EK,EH,Av,BE,BS,h1,DD,flip];exact .red (.black p1 p2 p4) (.black b hr h1) rfl rfl
theorem Ug {l r:RB α} {y:α} {h:Nat} (hl:Ok l h) (hr:Ok r h) (h1:r.red=false):ZR (mend (node l y r true)) h:=by
 have hlr:(l.red && l.left.red)=false:=by
  cases hc:l.red
  ·rfl
  ·rw [Jy hl hc];rfl
 have:mend (node l y r true)=node l y r true:=by
  simp [mend,Db,EK,EH,Av,BE,BS,h1,hlr]
 rw [this];cases hc:l.red
 ·exact .ok (.red hl hr hc h1)
 ·exact .rr hl hr hc h1
theorem Gh {l r:RB α} {y:α} {h:Nat} (hl:Ok l h) (hr:Ok r h):Ok (mend (node l y r false)) (h+1):=by
 cases hc:r.red
 ·exact Py (.ok hl) hr hc
 ·obtain ⟨rl,z,rr,rfl⟩:=Bt hc;obtain ⟨p1,p2,p3,p4⟩:=hr.Ek;cases hd:l.red
  ·have:mend (node l y (node rl z rr true) false)=node (node l y rl true) z rr false:=by
    simp [mend,Db,EK,EH,Av,BE,BS,G7,hd,p4]
   rw [this];exact .black (.red hl p1 hd p3) p2 p4
  ·obtain ⟨ll,u,lr,rfl⟩:=Bt hd;obtain ⟨q1,q2,q3,q4⟩:=hl.Ek
   have:mend (node (node ll u lr true) y (node rl z rr true) false)=node (node ll u lr false) y (node rl z rr false) true:=by
    simp [mend,Db,EK,EH,Av,BE,BS,flip,q3]
   rw [this];exact .red (.black q1 q2 q4) (.black p1 p2 p4) rfl rfl
theorem jI {l r:RB α} {y:α} {h:Nat} (hl:Ok l h) (hr:Ok r h) (h1:l.red=false):ZR (mend (node l y r true)) h:=by
 cases hc:r.red
 ·exact Ug hl hr hc
 ·obtain ⟨rl,z,rr,rfl⟩:=Bt hc;obtain ⟨p1,p2,p3,p4⟩:=hr.Ek
  have:mend (node l y (node rl z rr true) true)=node (node l y rl true) z rr true:=by
   simp [mend,Db,EK,EH,Av,BE,BS,G7,h1,p4]
  rw [this];exact .rr (.red hl p1 h1 p3) p2 rfl p4
theorem ok_ins (lt:α→α→Bool) (x:α):∀ {t:RB α} {h:Nat},Ok t h→ZR (ins lt t x) h∧(t.red=false→Ok (ins lt t x) h):=by
 intro t h k
 induction k with
 | nil=>exact ⟨.ok (.red .nil .nil rfl rfl),fun _ => .red .nil .nil rfl rfl⟩
 | @black l r y h a b c ia ib =>
   have key:Ok (ins lt (node l y r false) x) (h+1):=by
    simp only [ins];cases lt x y
    ·exact Gh a (ib.2 c)
    ·exact Py ia.1 b c
   exact ⟨.ok key,fun _=>key⟩
 | @red l r y h a b c d ia ib =>
   refine ⟨?_,fun h=>by cases h⟩;simp only [ins];cases lt x y
   ·exact jI a (ib.2 d) c
   ·exact Ug (ia.2 c) b d
def Good (t:RB α):Prop:=t.red=false∧∃ h,Ok t h
theorem Good.nil:Good (nil:RB α):=⟨rfl,0,.nil⟩
theorem Q0 (t:RB α):(blacken t).red=false:=by cases t <;> rfl
theorem Good.ins {lt:α→α→Bool} {x:α} {t:RB α} (k:Good t):Good (blacken (ins lt t x)):=by
 obtain ⟨hr,h,k⟩:=k;exact ⟨Q0 _,((ok_ins lt x k).2 hr).blacken⟩
end RB
end Go.Proofs.Q0
namespace Go.Proofs.Q0
theorem gF {a b c:Int} (h0:-9223372036854775808≤sn a b - sn c b) (h1:sn a b - sn c b < 9223372036854775808):sn a c=sn a b - sn c b:=by unfold sn at *;omega
theorem aAV {b k:Int} (h:In64 k):sn (lat b k) b=k:=by unfold sn lat;unfold In64 at h;omega
theorem aAP {t b:Int} (h:BY t):lat b (sn t b)=t:=by unfold sn lat;unfold BY at h;omega
theorem oU {b:Int} (h:BY b):lat b 0=b:=by unfold lat;unfold BY at h;omega
theorem P3 (b:Int):sn b b=0:=by unfold sn;omega
def We (x y:Int):Prop:=-9223372036854775808≤x - y∧x - y < 9223372036854775808
theorem tV {a c b:Int} (h:We (sn a b) (sn c b)):sn a c=sn a b - sn c b:=gF h.1 h.2
theorem VC {c a b:Int} (hc:0 < c) (h:c*a≤c*b):a≤b:=Int.le_of_mul_le_mul_left h hc
theorem Qh {a b c p q r:Int} (hp:0 < p) (hq:0 < q) (hr:0 < r) (h1:a*q≤b*p) (h2:b*r≤c*q):a*r≤c*p:=by
 have k1:=aDs h1 (aDb hr);have k2:=aDs h2 (aDb hp);refine VC hq ?_;have e1:q*(a*r)=a*q*r:=by grind
 have e2:b*p*r=b*r*p:=by grind
 have e3:c*q*p=q*(c*p):=by grind
 omega
theorem Kw {p:Pt} (hp:p.In) (h:p.right=true):1≤p.w∧p.w≤1048576∧0≤p.r∧p.r < p.w:=by
 unfold Pt.right at h;simp only [aDB,decide_eq_true_eq] at h;have:=Er.1 h.1;exact ⟨this.1,this.2,hp.2.1.1,h.2⟩
theorem PR {p q:Pt} (hp:p.In) (hq:q.In) (h1:p.right=true) (h2:q.right=true) {b:Int} (hn:We (sn q.t b) (sn p.t b)):JH p q=C1 (dist p b*q.w) (dist q b*p.w):=by
 have a1:=Kw hp h1;have a2:=Kw hq h2;unfold JH;rw [tV hn];have d1:dist p b=p.w*sn p.t b+p.r:=rfl;have d2:dist q b=q.w*sn q.t b+q.r:=rfl;generalize sn p.t b=x at *;generalize sn q.t b=y at *;have e1:dist p b*q.w=p.w*q.w*x+p.r*q.w:=by rw [d1];grind
 have e2:dist q b*p.w=p.w*q.w*y+q.r*p.w:=by rw [d2];grind
 have m0:0 < p.w*q.w:=Int.mul_pos om om;have m1:0≤p.r*q.w:=aDm om om;have m2:0≤q.r*p.w:=aDm om om;have m3:p.r*q.w < p.w*q.w:=Int.mul_lt_mul_of_pos_right om om;have m4:q.r*p.w < p.w*q.w:=by rw [aDU p.w];exact Int.mul_lt_mul_of_pos_right om om
 rw [e1,e2];generalize p.w*q.w=W at *;generalize p.r*q.w=u at *;generalize q.r*p.w=v at *;rcases Int.lt_trichotomy x y with h | h | h
 ·have:W*x+W≤W*y:=by have:=aDn (show x+1≤y by omega) (aDb m0);rwa [Int.mul_add,Int.mul_one] at this
  have c1:C1 0 (y - x)=-1:=by unfold C1;rw [if_pos om]
  rw [c1,if_neg (by decide)];unfold C1;rw [if_pos om]
 ·subst h;have c1:C1 0 (x - x)=0:=by unfold C1;rw [if_neg om,if_neg om]
  rw [if_pos c1];unfold C1;by_cases k:u < v
  ·rw [if_pos k,if_pos om]
  ·rw [if_neg k,if_neg (show ¬ W*x+u < W*x+v by omega)];by_cases k':v < u
   ·rw [if_pos k',if_pos om]
   ·rw [if_neg k',if_neg om]
 ·have:W*y+W≤W*x:=by have:=aDn (show y+1≤x by omega) (aDb m0);rwa [Int.mul_add,Int.mul_one] at this
  have c1:C1 0 (y - x)=1:=by unfold C1;rw [if_neg om,if_pos om]
  rw [c1,if_neg (by decide)];unfold C1;rw [if_neg om,if_pos om]
theorem Z4 {α:Type} {c:α→α→Int} {rY:α→α→Bool} {S:α→Prop} (le:α→α→Prop) (h1:∀ a b,S a→S b→(c a b < 0↔¬ le b a)) (h0:∀ a b,S a→S b→(c a b=0↔le a b∧le b a)) (tot:∀ a b,S a→S b→le a b∨le b a)
 (tr:∀ a b d,S a→S b→S d→le a b→le b d→le a d) (o:Cw rY S):Cw (fun a b=>decide (c a b < 0) || (decide (c a b=0) && rY a b)) S where
 irr a ha:=by
  have k1:=h1 a a ha ha;have:=tot a a ha ha;simp only [o.irr a ha,aDw,Bool.or_false,decide_eq_false_iff_not,k1];rcases this with h | h <;> exact fun k=>k h
 tr a b d ha hb hd k1 k2:=by
  simp only [Bool.or_eq_true,aDB,decide_eq_true_eq] at k1 k2 ⊢;rw [h1 a b ha hb,h0 a b ha hb] at k1;rw [h1 b d hb hd,h0 b d hb hd] at k2;rw [h1 a d ha hd,h0 a d ha hd];have GY:=tot a b ha hb;have tbd:=tot b d hb hd;have x1:=tr d a b hd ha hb;have x2:=tr b d a hb hd ha;have x3:=tr a b d ha hb hd;have x4:=tr d b a hd hb ha;rcases k1 with k1 | ⟨⟨k1,k1'⟩,k3⟩
  ·left;intro hda;rcases k2 with k2 | ⟨⟨k2,k2'⟩,k4⟩
   ·rcases tbd with h | h
    ·exact k1 (x2 h hda)
    ·exact k2 h
   ·exact k1 (x2 k2 hda)
  ·rcases k2 with k2 | ⟨⟨k2,k2'⟩,k4⟩
   ·left;intro hda;exact k2 (x1 hda k1)
   ·right;exact ⟨⟨x3 k1 k2,x4 k2' k1'⟩,o.tr a b d ha hb hd k3 k4⟩
 tri a b ha hb k1 k2:=by
  simp only [Bool.or_eq_false_iff,Bool.and_eq_false_iff,decide_eq_false_iff_not] at k1 k2;rw [h1 a b ha hb,h0 a b ha hb] at k1;rw [h1 b a hb ha,h0 b a hb ha] at k2;have q1:le b a:=Classical.not_not.1 k1.1;have q2:le a b:=Classical.not_not.1 k2.1;rcases k1.2 with h | h
  ·exact absurd ⟨q2,q1⟩ h
  ·rcases k2.2 with h' | h'
   ·exact absurd ⟨q1,q2⟩ h'
   ·exact o.tri a b ha hb h h'
structure Kf (b lo:Int) (x:It):Prop where
 isin:x.In
 right:x.right=true
 low:lo≤sn x.p.t b
 high:sn x.p.t b+sn x.d.t x.p.t≤lo+4611686018427387904
theorem iright_all {x:It} (hx:x.In) (h:x.right=true):x.p.right=true∧x.d.right=true∧x.p.w=x.d.w∧0 < x.id∧0≤sn x.d.t x.p.t∧sn x.d.t x.p.t≤1152921504606846976∧(1≤x.p.w∧x.p.w≤1048576∧0≤x.p.r∧x.p.r < x.p.w)∧0≤x.d.r∧x.d.r < x.p.w:=by
 unfold It.right at h;simp only [aDB,decide_eq_true_eq] at h;obtain ⟨⟨⟨⟨⟨h1,h2⟩,h3⟩,h4⟩,h5⟩,h6⟩:=h;have a1:=Kw hx.1 h1;have a2:=Kw hx.2.2 h2;exact ⟨h1,h2,h3,h4,h5,h6,a1,a2.2.2.1,by omega⟩
def Ib (lo:Int):Prop:=-4611686018427387904≤lo∧lo≤0
theorem Kf.dead {b lo:Int} {x:It} (h:Kf b lo x) (hm:Ib lo):sn x.d.t b=sn x.p.t b+sn x.d.t x.p.t∧0≤sn x.d.t x.p.t∧sn x.p.t b≤lo+4611686018427387904:=by
 obtain ⟨_,_,_,_,h5,h6,_⟩:=iright_all h.isin h.right;have h1:=h.low;have h2:=h.high;unfold Ib at hm;refine ⟨?_,h5,by omega⟩;unfold sn at *;omega
theorem Kf.move {b lo c:Int} {x:It} (h:Kf b lo x) (hm:Ib lo) (h0:lo≤sn c b) (h1:sn c b≤lo+4611686018427387904):Kf c (lo - sn c b) x∧sn x.p.t c=sn x.p.t b - sn c b:=by
 have d:=h.dead hm;have k1:=h.low;have k2:=h.high;unfold Ib at hm;have e:sn x.p.t c=sn x.p.t b - sn c b:=gF om om;exact ⟨⟨h.isin,h.right,by omega,by omega⟩,e⟩
theorem jW {p:Pt} {b c k:Int} (e:sn p.t c=sn p.t b - k):dist p c=dist p b - p.w*k:=by
 unfold dist;rw [e,Int.mul_sub];omega
def U4 (b:Int) (p q:Pt):Prop:=dist p b*q.w≤dist q b*p.w
theorem cmp_le {p q:Pt} {b:Int} (e:JH p q=C1 (dist p b*q.w) (dist q b*p.w)):(JH p q < 0↔¬ U4 b q p)∧(JH p q=0↔U4 b p q∧U4 b q p):=by
 rw [e];unfold U4 C1;split
 ·constructor <;> constructor <;> intro <;> first | omega | skip
 ·split
  ·constructor <;> constructor <;> intro <;> first | omega | skip
  ·constructor <;> constructor <;> intro <;> first | omega | skip
theorem ahead_ord {b lo:Int} (hm:Ib lo) {S:It→Prop} (hS:∀ x,S x→Kf b lo x) (hi:∀ x y,S x→S y→x.id=y.id→x=y):Cw ahead S:=by
 have hc:∀ x y,S x→S y→JH x.p y.p=C1 (dist x.p b*y.p.w) (dist y.p b*x.p.w):=fun x y hx hy=>by
  have a1:=hS x hx;have a2:=hS y hy;have d1:=a1.dead hm;have d2:=a2.dead hm;have l1:=a1.low;have l2:=a2.low;exact PR a1.isin.1 a2.isin.1 (iright_all a1.isin a1.right).1 (iright_all a2.isin a2.right).1 (by unfold We;unfold Ib at hm;omega)
 have hw:∀ x,S x→0 < x.p.w:=fun x hx=>by have:=(iright_all (hS x hx).isin (hS x hx).right).2.2.2.2.2.2.1;omega
 have oid:Cw (fun x y:It=>decide (x.id < y.id)) S:=by
  constructor
  ·intro a _;simp
  ·intro a b c _ _ _ h1 h2;simp only [decide_eq_true_eq] at *;omega
  ·intro a b ha hb h1 h2;simp only [decide_eq_false_iff_not] at *;exact hi a b ha hb om
 exact Z4 (c:=fun x y:It=>JH x.p y.p) (fun x y=>U4 b x.p y.p) (fun x y hx hy=>(cmp_le (hc x y hx hy)).1) (fun x y hx hy=>(cmp_le (hc x y hx hy)).2) (fun x y _ _=>Int.le_total _ _) (fun x y z hx hy hz h1 h2=>Qh (hw x hx) (hw y hy) (hw z hz) h1 h2) oid
theorem uM {b lo:Int} (hm:Ib lo) {S:It→Prop} (hS:∀ x,S x→Kf b lo x) (hi:∀ x y,S x→S y→x.id=y.id→x=y):Cw due S:=by
 have hc:∀ x y,S x→S y→JH x.d y.d=C1 (dist x.d b*y.d.w) (dist y.d b*x.d.w):=fun x y hx hy=>by
  have a1:=hS x hx;have a2:=hS y hy;have d1:=a1.dead hm;have d2:=a2.dead hm;have l1:=a1.low;have l2:=a2.low;have r1:=iright_all a1.isin a1.right;have r2:=iright_all a2.isin a2.right;have u1:=a1.high;have u2:=a2.high;exact PR a1.isin.2.2 a2.isin.2.2 r1.2.1 r2.2.1 (by unfold We;unfold Ib at hm;omega)
 have hw:∀ x,S x→0 < x.d.w:=fun x hx=>by
  have:=iright_all (hS x hx).isin (hS x hx).right;have h3:=this.2.2.1;have h4:=this.2.2.2.2.2.2.1;omega
 exact Z4 (c:=fun x y:It=>JH x.d y.d) (fun x y=>U4 b x.d y.d) (fun x y hx hy=>(cmp_le (hc x y hx hy)).1) (fun x y hx hy=>(cmp_le (hc x y hx hy)).2) (fun x y _ _=>Int.le_total _ _) (fun x y z hx hy hz h1 h2=>Qh (hw x hx) (hw y hy) (hw z hz) h1 h2) (ahead_ord hm hS hi)
end Go.Proofs.Q0
