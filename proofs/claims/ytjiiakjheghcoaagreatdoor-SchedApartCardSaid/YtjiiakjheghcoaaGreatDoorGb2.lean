/- A part of the proof: what its functions compute. -/
import Derived.Test.YtjiiakjheghcoaaGreatDoorGb1
import Derived.Laws.Externs
import Derived.Test.YtjiiakjheghcoaaGreatDoorRows
import Derived.WalkKit
import Derived.ProofKit
import Derived.OpenShut
import Derived.ShutString
import Derived.ChangeOld
import Derived.Below
import Derived.SizedLaws
import Derived.Lib.SmallJoins
import Derived.Deep.SlicePairs
import Derived.Deep.Slices
set_option linter.unusedVariables false
set_option linter.unusedSimpArgs false
set_option maxRecDepth 100000
set_option maxHeartbeats 64000000
set_option linter.unusedSectionVars false
namespace Go.Proofs.Q0
open Go Go.RowKit
structure Tn (p:Prop):Prop where
 h:p
section
variable {G G' : Prop}
theorem Ja (k:G') (t:Tn G'→G:=by intro zz;(repeat' (first|refine vs (k:=?_)|refine Al ?_|refine Nx.h ?_|fail));exact zz.1):G:=t ⟨k⟩
theorem Jb (k:G') (t:Tn G'→G:=by intro zz;(repeat' (first|refine Nx.h ?_|fail));exact zz.1):G:=t ⟨k⟩
theorem Jc (k:G') (t:Tn G'→G:=by intro zz;(repeat' (first|refine vs (k:=?_)|refine Nx.h ?_|fail));exact zz.1):G:=t ⟨k⟩
theorem Jd (k:G') (t:Tn G'→G:=by intro zz;(repeat' (first|refine vs (k:=?_)|refine Al ?_|refine Nx.h ?_|refine ES ?_|fail));exact zz.1):G:=t ⟨k⟩
theorem Je (k:G') (t:Tn G'→G:=by intro zz;(repeat' (first|refine vs (k:=?_)|refine Al ?_|refine Nx.h ?_|refine Ew ?_|fail));exact zz.1):G:=t ⟨k⟩
theorem Jf (k:G') (t:Tn G'→G:=by intro zz;(repeat' (first|refine vs (k:=?_)|fail));exact zz.1):G:=t ⟨k⟩
theorem Jg (k:G') (t:Tn G'→G:=by intro zz;(repeat' (first|refine Nx.h ?_|refine ES ?_|fail));exact zz.1):G:=t ⟨k⟩
theorem Jh (k:G') (t:Tn G'→G:=by intro zz;(repeat' (first|refine vs (k:=?_)|refine ps (k:=?_)|refine Al ?_|refine Nx.h ?_|refine Ew ?_|fail));exact zz.1):G:=t ⟨k⟩
theorem Ji (k:G') (t:Tn G'→G:=by intro zz;(repeat' (first|refine vs (k:=?_)|refine Al ?_|refine Ew ?_|fail));exact zz.1):G:=t ⟨k⟩
theorem Jj (k:G') (t:Tn G'→G:=by intro zz;(repeat' (first|refine vs (k:=?_)|refine ps (k:=?_)|refine Nx.h ?_|fail));exact zz.1):G:=t ⟨k⟩
theorem Jk (k:G') (t:Tn G'→G:=by intro zz;(repeat' (first|refine vs (k:=?_)|refine Al ?_|fail));exact zz.1):G:=t ⟨k⟩
theorem Jl (k:G') (t:Tn G'→G:=by intro zz;(repeat' (first|refine vs (k:=?_)|refine Nx.h ?_|refine ES ?_|fail));exact zz.1):G:=t ⟨k⟩
theorem Jm (k:G') (t:Tn G'→G:=by intro zz;(repeat' (first|refine vs (k:=?_)|refine ps (k:=?_)|refine Al ?_|refine Nx.h ?_|refine oY ?_|refine Ew ?_|refine ES ?_|fail));exact zz.1):G:=t ⟨k⟩
theorem Jn (k:G') (t:Tn G'→G:=by intro zz;(repeat' (first|refine Nx.h ?_|fail));exact dn (k:=zz.1)):G:=t ⟨k⟩
theorem Sa (k:G') (t:Tn G'→G:=by intro zz;(first|exact vs (k:=zz.1)|exact Al zz.1|exact Nx.h zz.1)):G:=t ⟨k⟩
theorem Sb (k:G') (t:Tn G'→G:=by intro zz;(first|exact vs (k:=zz.1)|exact Nx.h zz.1)):G:=t ⟨k⟩
theorem Sc (k:G') (t:Tn G'→G:=by intro zz;(first|exact vs (k:=zz.1)|exact Al zz.1|exact Nx.h zz.1|exact Ew zz.1)):G:=t ⟨k⟩
theorem Sd (k:G') (t:Tn G'→G:=by intro zz;(first|exact vs (k:=zz.1)|exact Al zz.1|exact Nx.h zz.1|exact ES zz.1)):G:=t ⟨k⟩
theorem Se (k:G') (t:Tn G'→G:=by intro zz;(first|exact vs (k:=zz.1)|exact ps (k:=zz.1)|exact Al zz.1|exact Nx.h zz.1|exact Ew zz.1)):G:=t ⟨k⟩
theorem Sf (k:G') (t:Tn G'→G:=by intro zz;(first|exact vs (k:=zz.1)|exact ps (k:=zz.1)|exact Al zz.1|exact Nx.h zz.1)):G:=t ⟨k⟩
theorem Sg (k:G') (t:Tn G'→G:=by intro zz;(first|exact vs (k:=zz.1)|exact ps (k:=zz.1)|exact Al zz.1|exact Nx.h zz.1|exact oY zz.1|exact Ew zz.1|exact ES zz.1)):G:=t ⟨k⟩
theorem AF (k:G') (t:Tn G'→G:=by intro zz;(first | exact rt (hq:=zz.1) | exact rt' (hq:=zz.1))):G:=t ⟨k⟩
theorem JG (k:G') (t:Tn G'→G:=by intro zz;(first | exact rt' (vs:=[]) (hr:=L2) (hq:=zz.1) | exact rt (vs:=[]) (hr:=L2) (hq:=zz.1))):G:=t ⟨k⟩
end
theorem Ab {p:Prop} (h:p:=by (repeat (first | exact Ac | (apply A5;exact rfl)))):p:=h
theorem om {p:Prop} (h:p:=by omega):p:=h
theorem smp {p:Prop} (h:p:=by simp):p:=h
theorem at0 {p:Prop} (h:p:=by repeat (first | exact At.head | (with_reducible apply At.tail))):p:=h
theorem sD {p:Prop} (h:p:=by simp [D0]):p:=h
theorem krf {p:Prop} (h:p:=by kernel_rfl):p:=h
section
variable {ops : Array Oper} {QE : Exit → Env → World → Prop} {n : Nat} {rest : List Oper} {env : Env} {w wb : World} {D : Ctx} {H : List Bn} {E : List Nat} {fuel : Nat} {listed : Array Bool} {d : Option Nat} {op : Op} {ty : Nat} {pos : String} {Am : Array Edge} {g : Option (Nat × Bool)}
theorem AQ {f:FuncId} {fn:Func} {c:Code} {n:Nat} {args:Array Value} {Q:Value→World→Prop} {rs:List ResultVar} (hf:Tryz.prog.funcs[f]?=some fn) (hn:fn.ntmps=n) (he:Kl Tryz.prog f=true:=by kernel_rfl)
 (hb:fn.body=some c:=by exact rfl) (hr:fn.results=rs.toArray:=by exact rfl) (hl:Nat.ble rs.length 4=true:=by exact rfl) (ha:Nat.ble args.size n=true:=by exact rfl)
 (k:XC Tryz.prog (A7 Tryz.prog rs Q) n c (PJ args) w):AM Tryz.prog f args w Q:=fL hf he hb hn hr hl ha k
theorem cl {c:Operand} {args:Array Operand} {ats:Array TypeId} {f:FuncId} {first caps:List Value} {Q:Value→World→Prop} (hw:BA ops env g=true:=by exact rfl) (hf:ev env c = .func (.func f) first.toArray caps.toArray:=by exact rfl)
 (h:AM Tryz.prog f (first ++ args.toList.map (ev env) ++ caps).toArray w Q) (k:∀ v w',Q v w'→XS Tryz.prog ops QE n rest (Bp env d v) w') :
 XS Tryz.prog ops QE n (⟨d,.call { callee := .value c,args:=args,argTypes:=ats },ty,pos,Am,g⟩ :: rest) env w:=Kj hw hf h k
theorem AY {c:Operand} {args:Array Operand} {ats:Array TypeId} {f:FuncId} {first caps:List Value} {X:Value} (hs:St wb D H w) (hw:BA ops env g=true:=by exact rfl) (hf:ev env c = .func (.func f) first.toArray caps.toArray:=by exact rfl)
 (h:AM Tryz.prog f (first ++ args.toList.map (ev env) ++ caps).toArray w fun v w'=>v=X∧AA [] w w') (k:∀ w',AA [] w w'→St wb D H w'→XS Tryz.prog ops QE n rest (Bp env d X) w') :
 XS Tryz.prog ops QE n (⟨d,.call { callee := .value c,args:=args,argTypes:=ats },ty,pos,Am,g⟩ :: rest) env w:=Kj hw hf h fun v w' h=>by obtain ⟨rfl,ho⟩:=h;exact k w' ho (hs.AK ho)
def Ye (a n:Nat) (G:Prop):Prop:=G
theorem Ye.done {a:Nat} {G:Prop} (h:G):Ye a 0 G:=h
theorem tkA {a m:Nat} {v:Value} (hX:XH ops E QE n:=by exact hX) (hi:ops[a]?=some ⟨d,op,ty,pos,Am,g⟩:=by exact rfl) (hc:Kx ops E listed a=true:=by kernel_rfl) (hS:SE E H listed w:=by (first | exact AH hs.hold | exact AH (hold_sim hs.hold rfl) | exact AH (hold_sim hs.hold.tail rfl) | exact AH (hR hs rfl) | exact AH hs.hold.tail | exact AH hs.hold.tail.tail | exact AH hs.hold.tail.tail.tail | exact A6 rfl)) (hw:BA ops env g=true:=by exact rfl)
 (hr:∀ w,(Hp ⟨d,op,ty,pos,Am,g⟩=true→Ex H w)→(execOp (ev env) (⟨d,op,ty,pos,Am,g⟩:Oper)).run Tryz.prog w = .ok (.value v) w:=by intro w' hH;(first | ((with_reducible apply Wc);(conv=>lhs;whnf)) | ((with_reducible apply Qt);(conv=>lhs;whnf)) | ((with_reducible apply NO);exact rfl) | ((with_reducible apply Lx);exact AI;exact rfl;exact rfl;(conv=>lhs;whnf)) | ((with_reducible apply r_load);exact AI;exact rfl;exact rfl;(first | exact hs.hold | exact hH rfl | assumption);(repeat (first | exact At.head | (with_reducible apply At.tail)));exact rfl) | ((with_reducible apply Dy);exact AI;exact rfl;exact rfl;(first | exact hs.hold | exact hH rfl | assumption);(repeat (first | exact At.head | (with_reducible apply At.tail)));(repeat (first | exact Dc.nil | (apply Dc.cons;exact rfl)))) | ((with_reducible apply O6);exact rfl;exact rfl) | ((with_reducible apply Uz);exact rfl;(conv=>lhs;whnf)) | ((with_reducible apply r_bin);exact rfl;exact rfl;exact rfl) | ((with_reducible apply VS);exact rfl;exact rfl;exact PC rfl rfl rfl) | ((with_reducible apply WT);exact rfl;exact rfl;exact PC rfl rfl rfl) | ((with_reducible apply Vq);exact rfl;exact rfl;exact rfl;exact rfl;(first | omega | exact (DL _).1);(first | omega | exact (DL _).2)) | ((with_reducible apply XQ);exact rfl;exact rfl;(first | omega | exact (DL _).1);(first | omega | exact (DL _).2);omega) | ((with_reducible apply W3);exact rfl;exact rfl;omega;omega;omega) | ((with_reducible apply V8);exact rfl;exact rfl;omega;omega) | ((with_reducible apply W5);exact rfl;exact rfl;(first | omega | exact (DL _).1);(first | omega | exact (DL _).2);omega) | ((with_reducible apply Uv);exact AI;exact rfl;exact rfl;exact rfl) | ((with_reducible apply Zk);exact rfl) | ((with_reducible apply aT);exact AI;exact rfl;exact rfl;exact rfl) | ((with_reducible apply bB);exact AI;exact rfl;exact rfl;exact rfl) | ((with_reducible apply S4);exact AI;exact rfl;exact rfl;exact rfl) | ((with_reducible apply S9);exact AI;exact rfl;exact rfl;exact rfl) | ((with_reducible apply Wx);exact AI;exact rfl;exact rfl;exact rfl) | ((with_reducible apply VZ);exact rfl;exact rfl) | ((with_reducible apply WX);exact rfl;exact rfl) | (with_reducible apply NH) | ((with_reducible apply ZW);exact rfl) | ((with_reducible apply Lz);exact rfl) | ((with_reducible apply aI);exact AI;exact rfl;exact rfl;exact rfl;(repeat (first | exact Zip.nil | ((with_reducible apply Zip.last);exact rfl;exact rfl;exact rfl;exact rfl) | ((with_reducible apply Zip.cons);exact rfl;exact rfl;exact rfl;exact rfl)))) | ((with_reducible apply Z6);exact AI;exact rfl;exact rfl;exact rfl;(repeat (first | exact Zip.nil | ((with_reducible apply Zip.last);exact rfl;exact rfl;exact rfl;exact rfl) | ((with_reducible apply Zip.cons);exact rfl;exact rfl;exact rfl;exact rfl)))) | ((with_reducible apply S5);exact AI;exact rfl;exact rfl;(repeat (first | exact CU.nil | (apply CU.one;exact rfl;(conv=>lhs;whnf);exact rfl;(repeat (first | exact Ai.nil | apply Ai.skip | apply Ai.cons))) | (apply CU.agg;exact rfl;exact rfl;exact rfl;(repeat (first | exact Ai.nil | apply Ai.skip | apply Ai.cons))))))))
 (k:Ye (a+1) m (XA Tryz.prog ops E H QE n fuel (listed.setIfInBounds a true) (Bp env d v) w)):Ye a (m+1) (XA Tryz.prog ops E H QE n (fuel+1) listed env w):=YV hX hi hc hS hw hr k
theorem tks (a m:Nat) {G G':Prop} (k:G') (t:Tn G'→Ye a m G:=by intro zz;(repeat' (refine tkA (k:=?_)));exact Ye.done zz.1):G:=t ⟨k⟩
end
end Go.Proofs.Q0
namespace Go.Proofs.Q0
open Go Go.RowKit
attribute [local irreducible] XS XC XA AX AO A7 A0 AZ A8 Aa AV SE
theorem wrap_u64 (n:Int):IntKind.u64.wrap n=n % 18446744073709551616:=by simp [IntKind.wrap,IntKind.signed,IntKind.bits]
theorem wrap_i64 (n:Int):IntKind.i64.wrap n=(n+9223372036854775808) % 18446744073709551616 - 9223372036854775808:=by
 simp only [IntKind.wrap,IntKind.signed,IntKind.bits]
 simp
 split <;> omega
theorem I7 (a b c:Int) (ha:0≤a) (hb:0≤b) (hc0:0≤c) (hc:c≤1) (w:World) :
 AM Tryz.prog 126 #[.int .u64 a,.int .u64 b,.int .u64 c] w fun v w'=>v = .tuple #[.int .u64 ((a+b+c) % 18446744073709551616),.int .u64 ((a+b+c) / 18446744073709551616)]∧w=w':=by
 refine .inr ⟨_,w,?_,rfl,rfl⟩
 rw [run_callFunc_extern (fn:=Tryz.f126) (by kernel_rfl) (by kernel_rfl) (by kernel_rfl) (by kernel_rfl) (e:=add64Entry) (by kernel_rfl),run_add64 a b c ha hb hc0 hc]
 rfl
def wv (x:Int):Value := .agg #[.int .i64 (x / 18446744073709551616),.int .u64 (x % 18446744073709551616)]
def A9 (x:Int):Prop:=-170141183460469231731687303715884105728≤x∧x < 170141183460469231731687303715884105728
instance (x:Int):Decidable (A9 x):=by unfold A9;infer_instance
def EU (x:Int):Value:=if A9 x then .tuple #[wv x,.bool true] else .tuple #[wv 0,.bool false]
theorem JO {s hi lo:Int} (h:A9 s) (h1:hi=s / 18446744073709551616) (h2:lo=s % 18446744073709551616):packed [Value.agg #[.int .i64 hi,.int .u64 lo],.bool true]=EU s:=by
 unfold EU wv packed;rw [if_pos h,h1,h2]
theorem JZ {s:Int} (h:¬ A9 s):packed [Value.agg #[.int .i64 0,.int .u64 0],.bool false]=EU s:=by
 unfold EU wv packed;rw [if_neg h];rfl
theorem Zo {s hi lo:Int} (h1:hi=s / 18446744073709551616) (h2:lo=s % 18446744073709551616):packed [Value.agg #[.int .i64 hi,.int .u64 lo]]=wv s:=by
 unfold wv packed;rw [h1,h2]
theorem decide_eq {p q:Prop} [Decidable p] [Decidable q] {b:Bool} (h:(decide p == decide q)=b):(b=true→(p↔q))∧(b=false→¬ (p↔q)):=by
 subst h
 by_cases hp:p <;> by_cases hq:q <;> simp [hp,hq]
theorem decide_ne {p q:Prop} [Decidable p] [Decidable q] {b:Bool} (h:(decide p != decide q)=b):(b=false→(p↔q))∧(b=true→¬ (p↔q)):=by
 subst h
 by_cases hp:p <;> by_cases hq:q <;> simp [hp,hq]
theorem PI (x y:Int) (hx:A9 x) (hy:A9 y) (w0:World):AM Tryz.prog 144 #[wv x,wv y] w0 fun v w'=>v=EU (x+y)∧AA [] w0 w':=by
 obtain ⟨hx1,hx2⟩:=hx
 obtain ⟨hy1,hy2⟩:=hy
 have hs:=St.nil w0
 refine AQ Tryz.func144 Tryz.ntmps144 (k:=?_)
 repeat' (first|refine Sa ?_|(refine al hs (k:=?_);intro b w hz hs)|(refine bx hs (k:=?_);intro b w hz hs)|fail)
 refine cl (h:=by exact I7 _ _ _ om om om om _) (k:=?_)
 rintro v w' ⟨rfl,rfl⟩
 refine Ja ?_
 refine cl (h:=by exact I7 _ _ _ (by rw [wrap_u64];omega) (by rw [wrap_u64];omega) om om _) (k:=?_)
 rintro v w' ⟨rfl,rfl⟩
 repeat' (first|refine vs (k:=?_)|refine ps (k:=?_)|refine Al ?_|refine Nx.h ?_|refine ES ?_|(refine AU hs (k:=?_);intro w hs)|(refine al hs (k:=?_);intro b w hz hs)|((with_reducible apply BM);exact rfl;exact rfl;intro c hc;(fail_if_success have:true=c:=hc);(fail_if_success have:false=c:=hc);cases c)|refine xc_cond rfl (fun hc=>?_) fun hc=>?_|fail)
 all_goals (refine AF ?_)
 all_goals refine ⟨?_,hs.AD rfl⟩
 all_goals simp only [wrap_u64,wrap_i64] at *
 ·refine JO ?_ ?_ ?_
  all_goals have hc:=(decide_eq hc).2 rfl
  all_goals (try unfold A9)
  all_goals omega
 ·refine JZ ?_
  all_goals have hd:=(decide_eq ‹(_ == _)=true›).1 rfl
  all_goals have hc:=(decide_ne ‹(_ != _)=true›).2 rfl
  all_goals (try unfold A9)
  all_goals omega
 ·refine JO ?_ ?_ ?_
  all_goals have hd:=(decide_eq ‹(_ == _)=true›).1 rfl
  all_goals have hc:=(decide_ne ‹(_ != _)=false›).1 rfl
  all_goals (try unfold A9)
  all_goals omega
def gP:Array Value→Sem Value:=fun args=>do
 let (x, y, b) ← Extern.MathBitsCarry.three "Sub64" args
 pure (Extern.MathBitsCarry.pair ((x+Extern.MathBitsCarry.m64 - y - b) % Extern.MathBitsCarry.m64) (if x < y+b then 1 else 0))
def bor (x y b:Int):Int:=if x < y+b then 1 else 0
theorem Lh (a b c:Int) (ha:0≤a) (eH:a < 18446744073709551616) (hb:0≤b) (hb':b < 18446744073709551616) (hc0:0≤c) (hc:c≤1) (w:World) :
 AM Tryz.prog 168 #[.int .u64 a,.int .u64 b,.int .u64 c] w fun v w'=>v = .tuple #[.int .u64 ((a - b - c) % 18446744073709551616),.int .u64 (bor a b c)]∧w=w':=by
 refine .inr ⟨_,w,?_,rfl,rfl⟩
 obtain ⟨x,rfl⟩:=Int.eq_ofNat_of_zero_le ha
 obtain ⟨y,rfl⟩:=Int.eq_ofNat_of_zero_le hb
 obtain ⟨z,rfl⟩:=Int.eq_ofNat_of_zero_le hc0
 have hrun:(gP #[.int .u64 (x:Int),.int .u64 (y:Int),.int .u64 (z:Int)]).run Tryz.prog w = .ok (.tuple #[.int .u64 (((x+18446744073709551616 - y - z) % 18446744073709551616:Nat):Int),.int .u64 ((if x < y+z then 1 else 0:Nat):Int)]) w:=by
  have:z=0∨z=1:=by omega
  rcases this with rfl | rfl <;> rfl
 rw [run_callFunc_extern (fn:=Tryz.f168) (by kernel_rfl) (by kernel_rfl) (by kernel_rfl) (by kernel_rfl) (e:=gP) (by kernel_rfl),hrun]
 have e1:(((x+18446744073709551616 - y - z) % 18446744073709551616:Nat):Int)=((x:Int) - y - z) % 18446744073709551616:=by omega
 have e2:((if x < y+z then 1 else 0:Nat):Int)=bor x y z:=by unfold bor;split <;> split <;> omega
 rw [e1,e2]
 rfl
theorem Fp (x:Int) (h1:-9223372036854775808≤x) (h2:x < 9223372036854775808) (w0:World):AM Tryz.prog 49 #[.int .i64 x] w0 fun v w'=>v=wv x∧AA [] w0 w':=by
 have hs:=St.nil w0
 refine AQ Tryz.func49 Tryz.ntmps49 (k:=?_)
 repeat' (first|refine Sa ?_|(refine st hs (k:=?_);intro w hs)|(refine AU hs (k:=?_);intro w hs)|(refine al hs (k:=?_);intro b w hz hs)|refine Au rfl (fun hc=>?_) fun hc=>?_|fail)
 all_goals (refine AF ?_)
 all_goals refine ⟨?_,hs.AD rfl⟩
 all_goals simp only [wrap_u64,wrap_i64] at *
 all_goals (refine Zo ?_ ?_ <;> omega)
theorem Oy (x:Int) (h1:0≤x) (h2:x < 18446744073709551616) (w0:World):AM Tryz.prog 188 #[.int .u64 x] w0 fun v w'=>v=wv x∧AA [] w0 w':=by
 have hs:=St.nil w0
 refine AQ Tryz.func188 Tryz.ntmps188 (k:=?_)
 repeat' (first|refine Sa ?_|(refine AU hs (k:=?_);intro w hs)|(refine al hs (k:=?_);intro b w hz hs)|fail)
 all_goals (refine AF ?_)
 all_goals refine ⟨?_,hs.AD rfl⟩
 all_goals (refine Zo ?_ ?_ <;> omega)
def Oe (x:Int):Int:=if x=-170141183460469231731687303715884105728 then x else -x
theorem Qe (x:Int) (hx:A9 x) (w0:World):AM Tryz.prog 127 #[wv x] w0 fun v w'=>v=wv (Oe x)∧AA [] w0 w':=by
 obtain ⟨hx1,hx2⟩:=hx
 have hs:=St.nil w0
 have hb:0≤bor 0 (x % 18446744073709551616) 0∧bor 0 (x % 18446744073709551616) 0≤1:=by unfold bor;split <;> omega
 refine AQ Tryz.func127 Tryz.ntmps127 (k:=?_)
 repeat' (first|refine Sa ?_|(refine al hs (k:=?_);intro b w hz hs)|(refine bx hs (k:=?_);intro b w hz hs)|fail)
 refine cl (h:=by exact Lh _ _ _ om om om om om om _) (k:=?_)
 rintro v w' ⟨rfl,rfl⟩
 refine Ja ?_
 refine cl (h:=by exact Lh _ _ _ om om (by rw [wrap_u64];omega) (by rw [wrap_u64];omega) om om _) (k:=?_)
 rintro v w' ⟨rfl,rfl⟩
 repeat' (first|refine Sa ?_|(refine AU hs (k:=?_);intro w hs)|fail)
 all_goals (refine AF ?_)
 all_goals refine ⟨?_,hs.AD rfl⟩
 all_goals simp only [wrap_u64,wrap_i64,bor,Oe] at *
 all_goals (refine Zo ?_ ?_ <;> (try split) <;> (try split) <;> omega)
theorem eB {a b c d:Int} (h1:a=c) (h2:b=d):packed [Value.int .u64 a,.int .u64 b] = .tuple #[.int .u64 c,.int .u64 d]:=by rw [h1,h2];rfl
def o8 (x:Int):Value := .tuple #[.int .u64 ((if x < 0 then -x else x) / 18446744073709551616),.int .u64 ((if x < 0 then -x else x) % 18446744073709551616)]
theorem lZ (x:Int) (hx:A9 x) (w0:World):AM Tryz.prog 124 #[wv x] w0 fun v w'=>v=o8 x∧AA [] w0 w':=by
 have hx':=hx
 obtain ⟨hx1,hx2⟩:=hx
 have hs:=St.nil w0
 refine AQ Tryz.func124 Tryz.ntmps124 (k:=?_)
 repeat' (first|refine Sa ?_|(refine bx hs (k:=?_);intro b w hz hs)|refine Au rfl (fun hc=>?_) fun hc=>?_|fail)
 ·refine AY hs (h:=by exact Qe x hx' _) (k:=?_);intro w' ho hs
  repeat' (first|refine Nx.h ?_|(refine AU hs (k:=?_);intro w hs)|fail)
  refine dr [] hs (k:=?_);intro hX w hs
  refine tks 0 7 ?_
  refine en (k:=?_)
  refine Jb ?_
  refine AF ?_
  refine ⟨?_,hs.AD rfl⟩
  simp only [wrap_u64,Oe] at *
  refine eB ?_ ?_ <;> (try split) <;> (try split) <;> omega
 ·refine dr [] hs (k:=?_);intro hX w hs
  refine tks 0 7 ?_
  refine en (k:=?_)
  refine Jb ?_
  refine AF ?_
  refine ⟨?_,hs.AD rfl⟩
  simp only [wrap_u64] at *
  refine eB ?_ ?_ <;> (try split) <;> omega
theorem Rn (a:Int) (w0:World):AM Tryz.prog 216 #[.int .i64 a] w0 fun v w'=>v = .bool false∧AA [] w0 w':=by
 have hs:=St.nil w0
 refine AQ Tryz.func216 Tryz.ntmps216 (k:=?_)
 refine Ja ?_
 refine AF ?_
 exact ⟨by simp [packed],hs.AD rfl⟩
theorem SJ (a:Int) (w0:World):AM Tryz.prog 217 #[.int .u64 a] w0 fun v w'=>v = .bool false∧AA [] w0 w':=by
 have hs:=St.nil w0
 refine AQ Tryz.func217 Tryz.ntmps217 (k:=?_)
 refine Ja ?_
 refine AF ?_
 exact ⟨by simp [packed],hs.AD rfl⟩
def CX (a b:Int):Int:=if a < b then -1 else if b < a then 1 else 0
theorem OE (a b:Int) (w0:World):AM Tryz.prog 183 #[.int .i64 a,.int .i64 b] w0 fun v w'=>v = .int .i64 (CX a b)∧AA [] w0 w':=by
 have hs:=St.nil w0
 refine AQ Tryz.func183 Tryz.ntmps183 (k:=?_)
 refine Ja ?_
 refine AY hs (h:=by exact Rn _ _) (k:=?_);intro w' ho hs
 refine Ja ?_
 refine AY hs (h:=by exact Rn _ _) (k:=?_);intro w' ho hs
 repeat' (first|refine Sd ?_|refine Au rfl (fun hc=>?_) fun hc=>?_|fail)
 all_goals (refine AF ?_)
 all_goals refine ⟨?_,hs.AD rfl⟩
 all_goals (simp only [packed,CX];simp [*])
theorem OD (a b:Int) (w0:World):AM Tryz.prog 184 #[.int .u64 a,.int .u64 b] w0 fun v w'=>v = .int .i64 (CX a b)∧AA [] w0 w':=by
 have hs:=St.nil w0
 refine AQ Tryz.func184 Tryz.ntmps184 (k:=?_)
 refine Ja ?_
 refine AY hs (h:=by exact SJ _ _) (k:=?_);intro w' ho hs
 refine Ja ?_
 refine AY hs (h:=by exact SJ _ _) (k:=?_);intro w' ho hs
 repeat' (first|refine Sd ?_|refine Au rfl (fun hc=>?_) fun hc=>?_|fail)
 all_goals (refine AF ?_)
 all_goals refine ⟨?_,hs.AD rfl⟩
 all_goals (simp only [packed,CX];simp [*])
theorem dL (p q:Int) (b:Nat) (e:TypeId) (w0:World) (hb:w0.heap[b]?=some (.cells #[.int .i64 p,.int .i64 q] e (0,0))) :
 AM Tryz.prog 182 #[.slice (some ⟨b,0,none⟩) 2 2] w0 fun v w'=>v = .int .i64 (if p=0 then q else p)∧AA [] w0 w':=by
 have hs:=(St.nil w0).AG hb (by simp)
 refine AQ Tryz.func182 Tryz.ntmps182 (k:=?_)
 refine Ja ?_
 refine BD (fun s=>[(3,.int .i64 0),(6,.slice (some ⟨b,0,none⟩) 2 2),(7,.int .i64 2),(8,.int .i64 (s:Nat))]) (fun s w=>s≤2∧(1≤s→p=0)∧(s=2→q=0)∧St w0 D0 [(b,.cells #[.int .i64 p,.int .i64 q] e (0,0),false)] w) (fun s=>2 - s) 0 Ab ⟨by omega,by omega,by omega,hs⟩ fun s env w ⟨h1,h2,h3,hs⟩=>?_
 have:s=0∨s=1∨s=2:=by omega
 rcases this with rfl | rfl | rfl
 ·refine Je ?_
  refine ix (h0:=(by decide)) (h1:=(by decide)) (k:=?_)
  repeat' (first|refine Sa ?_|refine xc_cond rfl (fun hc=>?_) fun hc=>?_|fail)
  ·refine AF ?_
   refine ⟨?_,hs.keep hb⟩
   have:p≠0:=by simpa using hc
   simp [packed,this]
  ·refine A2 1 (by decide) Ab ⟨by omega,fun _=>by simpa using hc,by omega,hs⟩
 ·refine Je ?_
  refine ix (h0:=(by decide)) (h1:=(by decide)) (k:=?_)
  repeat' (first|refine Sa ?_|refine xc_cond rfl (fun hc=>?_) fun hc=>?_|fail)
  ·refine AF ?_
   refine ⟨?_,hs.keep hb⟩
   simp [packed,h2]
  ·refine A2 2 (by decide) Ab ⟨by omega,fun _=>h2 om,fun _=>by simpa using hc,hs⟩
 ·refine Jd ?_
  refine AF ?_
  refine ⟨?_,hs.keep hb⟩
  simp [packed,h2,h3]
theorem agg_ok {s hi lo:Int} (h1:hi=s / 18446744073709551616) (h2:lo=s % 18446744073709551616):Value.agg #[.int .i64 hi,.int .u64 lo]=wv s:=by
 unfold wv;rw [h1,h2]
theorem rS (x y:Int) (hx:A9 x) (hy:A9 y) (w0:World):AM Tryz.prog 169 #[wv x,wv y] w0 fun v w'=>v=EU (x - y)∧AA [] w0 w':=by
 obtain ⟨hx1,hx2⟩:=hx
 obtain ⟨hy1,hy2⟩:=hy
 have hs:=St.nil w0
 have hb:(0≤bor (x % 18446744073709551616) (y % 18446744073709551616) 0∧bor (x % 18446744073709551616) (y % 18446744073709551616) 0≤1)∧(x % 18446744073709551616 < y % 18446744073709551616∧bor (x % 18446744073709551616) (y % 18446744073709551616) 0=1∨y % 18446744073709551616≤x % 18446744073709551616∧bor (x % 18446744073709551616) (y % 18446744073709551616) 0=0):=by unfold bor;split <;> omega
 obtain ⟨hb,hb'⟩:=hb
 refine AQ Tryz.func169 Tryz.ntmps169 (k:=?_)
 repeat' (first|refine Sa ?_|(refine al hs (k:=?_);intro b w hz hs)|(refine bx hs (k:=?_);intro b w hz hs)|fail)
 refine cl (h:=by exact Lh _ _ _ om om om om om om _) (k:=?_)
 rintro v w' ⟨rfl,rfl⟩
 refine Ja ?_
 refine cl (h:=by exact Lh _ _ _ (by rw [wrap_u64];omega) (by rw [wrap_u64];omega) (by rw [wrap_u64];omega) (by rw [wrap_u64];omega) om om _) (k:=?_)
 rintro v w' ⟨rfl,rfl⟩
 repeat' (first|refine vs (k:=?_)|refine ps (k:=?_)|refine Al ?_|refine Nx.h ?_|refine ES ?_|(refine AU hs (k:=?_);intro w hs)|(refine al hs (k:=?_);intro b w hz hs)|((with_reducible apply BM);exact rfl;exact rfl;intro c hc;(fail_if_success have:true=c:=hc);(fail_if_success have:false=c:=hc);cases c)|refine xc_cond rfl (fun hc=>?_) fun hc=>?_|fail)
 all_goals (refine AF ?_)
 all_goals refine ⟨?_,hs.AD rfl⟩
 all_goals simp only [wrap_u64,wrap_i64] at *
 all_goals clear hs
 all_goals generalize bor (x % 18446744073709551616) (y % 18446744073709551616) 0=B at *
 ·refine JO ?_ ?_ ?_
  all_goals have hc:=(decide_ne hc).1 rfl
  all_goals (try unfold A9)
  all_goals omega
 ·refine JZ ?_
  all_goals have hd:=(decide_ne ‹(decide (x / 18446744073709551616 < 0) != decide (y / 18446744073709551616 < 0))=true›).2 rfl
  all_goals have hc:=(decide_ne hc).2 rfl
  all_goals (try unfold A9)
  all_goals omega
 ·refine JO ?_ ?_ ?_
  all_goals have hd:=(decide_ne ‹(decide (x / 18446744073709551616 < 0) != decide (y / 18446744073709551616 < 0))=true›).2 rfl
  all_goals have hc:=(decide_ne hc).1 rfl
  all_goals (try unfold A9)
  all_goals omega
theorem sS (x:Int) (hx:A9 x) (w0:World):AM Tryz.prog 195 #[wv x] w0 fun v w'=>v=EU (-x)∧AA [] w0 w':=by
 have hx':=hx
 obtain ⟨hx1,hx2⟩:=hx
 have hs:=St.nil w0
 refine AQ Tryz.func195 Tryz.ntmps195 (k:=?_)
 repeat' (first|refine Sa ?_|(refine AU hs (k:=?_);intro w hs)|(refine al hs (k:=?_);intro b w hz hs)|(refine bx hs (k:=?_);intro b w hz hs)|refine xc_cond rfl (fun hc=>?_) fun hc=>?_|fail)
 ·refine AF ?_
  refine ⟨?_,hs.AD rfl⟩
  refine JZ ?_
  simp [By] at hc
  unfold A9
  omega
 ·refine AY hs (h:=by exact Qe x hx' _) (k:=?_);intro w' ho hs
  repeat' (first|refine Sb ?_|(refine AU hs (k:=?_);intro w hs)|fail)
  refine AF ?_
  refine ⟨?_,hs.AD rfl⟩
  simp [By] at hc
  unfold Oe
  rw [if_neg om]
  refine JO ?_ rfl rfl
  unfold A9
  omega
end Go.Proofs.Q0
namespace Go.Proofs.Q0
open Go Go.RowKit Go.ChangeShapes Go.WideShapes Go.ChangeAt
theorem own:ownKnob Tryz.prog.godebug=none:=by kernel_rfl
theorem laidOut:laidOutB Tryz.prog=true:=by kernel_rfl
end Go.Proofs.Q0
namespace Go.Proofs.Q0
open Go Go.RowKit
section
variable {P : Program} {ops : Array Oper} {QE : Exit → Env → World → Prop} {n : Nat} {rest : List Oper} {env : Env} {w wb : World} {D : Ctx} {H : List Bn} {T : Lc}
 {d:Option Nat} {ty:Nat} {pos:String} {Am:Array Edge} {g:Option (Nat × Bool)}
theorem X3 {t e size bytes:Nat} (hu:P.underlying t=some (.slice e)) {i:TypeInfo} (hi:P.info? e=some i) (hs1:i.size=size) (hs2:i.bytes=bytes) {z:Value} (hz:i.zero=some z) (KO:z.cells.size=size)
 {v:Value} {k:Nat} {xs news:List Value} {a:Addr} {c m:Nat} (hO:O0 wb D H e size v k xs w) (hl:news.length=c*size) (hc0:0 < c) (hcs:∀ (j:Nat) u,news[j]?=some u→w.cell? (a.add j)=some u) (h1:∀ u∈news,u.oneCell'=true)
 (hk:(k+c)*bytes≤140737488355328) (hk':k+c≤9223372036854775807) :
 ∃ v' w',(Builtin.append_ #[t,t] ty #[v,.slice (some a) c m]).run P w = .ok v' w'∧O0 wb D H e size v' (k+c) (xs ++ news) w'∧v' ≠ .slice none 0 0:=by
 subst hs1 hs2
 have hcb:c*i.bytes≤281474976710656:=by
  have:=Nat.mul_le_mul_right i.bytes (show c≤k+c by omega)
  omega
 rcases hO with ⟨rfl,rfl,rfl,hs⟩ | ⟨g,cap,cur,rfl,hc,UB,hxl,iC,hs⟩
 ·have hr:=run_append_nil (P:=P) w t ty e i z hu hi hz a c m news hl hcs hc0 om hcb
  refine ⟨_,_,hr,.inr ⟨w.heap.size,grownCap w c 0 e,(news.toArray ++ Builtin.zeroCells z.cells (grownCap w c 0 e - c)).toList,by rw [Nat.zero_add],by rw [Nat.zero_add];exact grownCap_ge w c 0 e,?_,?_,?_,hs.Uk.alloc _⟩,by simp⟩
  ·have:=grownCap_ge w c 0 e
   simp only [Array.toList_append,List.length_append,LY,KO,hl]
   rw [← Nat.add_mul];congr 1;omega
  ·rw [Nat.zero_add,List.nil_append,hl]
  ·rw [List.nil_append,Nat.zero_add,Array.toList_append,List.take_append_of_le_length (by simp [hl])]
   exact List.take_of_length_le (by simp [hl])
 ·have hg:=hs.get At.head
  by_cases hroom:k+c≤cap
  ·have hfit:k*i.size+news.length≤cur.toArray.size:=by
    rw [hl,List.size_toArray,UB,← Nat.add_mul];exact Nat.mul_le_mul_right _ hroom
   have hr:=run_append_room (P:=P) w t ty e i hu hi g k cap cur.toArray hg a c m news hl hcs h1 hroom hfit
   simp only [List.size_toArray] at hfit
   refine ⟨_,_,hr,.inr ⟨g,cap,(cur.take (k*i.size) ++ news ++ cur.drop (k*i.size+news.length)),rfl,hroom,?_,?_,?_,hs.row At.head _⟩,by simp⟩
   ·simp only [List.length_append,List.length_take,List.length_drop]
    omega
   ·rw [List.length_append,hxl,hl,Nat.add_mul]
   ·rw [List.append_assoc,← List.append_assoc,iC,List.take_append_of_le_length (by rw [List.length_append,hxl,hl,Nat.add_mul];exact Nat.le_refl _)]
    exact List.take_of_length_le (by rw [List.length_append,hxl,hl,Nat.add_mul];exact Nat.le_refl _)
  ·have hold:∀ (j:Nat) u,xs[j]?=some u→w.cell? ((⟨g,0,none⟩:Addr).add j)=some u:=fun j u hj=>by
    rw [El]
    rw [← iC,List.getElem?_take] at hj
    split at hj
    ·simp [World.cell?,hg,hj]
    ·cases hj
   have hr:=run_append_grow (P:=P) w t ty e i z hu hi hz ⟨g,0,none⟩ k cap xs hxl hold a c m news hl hcs om om (growslice_fits om hk)
   have hge:=grownCap_ge w (k+c) cap e
   refine ⟨_,_,hr,.inr ⟨w.heap.size,grownCap w (k+c) cap e,(xs.toArray ++ news.toArray ++ Builtin.zeroCells z.cells (grownCap w (k+c) cap e - (k+c))).toList,rfl,hge,?_,?_,?_,(hs.Uk.alloc _).swap.Bt⟩,by simp⟩
   ·simp only [Array.toList_append,List.length_append,LY,KO,hl,hxl]
    rw [← Nat.add_mul,← Nat.add_mul];congr 1;omega
   ·rw [List.length_append,hxl,hl,Nat.add_mul]
   ·rw [Array.toList_append,Array.toList_append,List.take_append_of_le_length (by simp [hxl,hl,Nat.add_mul])]
    exact List.take_of_length_le (by simp [hxl,hl,Nat.add_mul])
theorem RK (hT:Bf P T) {t e size bytes:Nat} {zs news:List Value} {x y:Operand} {v:Value} {k c m:Nat} {a:Addr} {xs:List Value} (hw:BA ops env g=true) (Cx:look t T.sls=some (e,size,bytes)) (hz:look e T.zs=some zs) (hzl:Nat.beq zs.length size=true)
 (hx:ev env x=v) (hy:ev env y = .slice (some a) c m) (hl:news.length=c*size) (hc0:0 < c) (hcs:∀ (j:Nat) u,news[j]?=some u→w.cell? (a.add j)=some u) (h1:∀ u∈news,u.oneCell'=true) (hO:O0 wb D H e size v k xs w)
 (hk:(k+c)*bytes≤140737488355328) (hk':k+c≤9223372036854775807) (kk:∀ v' w',O0 wb D H e size v' (k+c) (xs ++ news) w'→v' ≠ .slice none 0 0→XS P ops QE n rest (Bp env d v') w') :
 XS P ops QE n (⟨d,.call { callee := .builtin .append,args:=#[x,y],argTypes:=#[t,t] },ty,pos,Am,g⟩ :: rest) env w:=by
 obtain ⟨hu,i,hi,hs1,hs2⟩:=Gw (hT.sl Cx)
 obtain ⟨i',z,hi',R7,KO⟩:=TA (hT.z hz)
 rw [hi] at hi';cases hi'
 obtain ⟨v',w',hr,h2,h3⟩:=X3 (P:=P) (ty:=ty) (m:=m) hu hi hs1 hs2 R7 (by rw [KO];simpa using Nat.eq_of_beq_eq_true hzl) hO hl hc0 hcs h1 hk hk'
 refine XS.value hw (v:=v') (w':=w') ?_ (kk v' w' h2 h3)
 simp [execOp,resolve,Sem.run_bind,invoke,builtin,hx,hy,hr]
theorem M3 (hT:Bf P T) {t e size bytes:Nat} (hw:BA ops env g=true) (Cx:look t T.sls=some (e,size,bytes)) (hs:St wb D H w)
 (k:∀ v w',O0 wb D H e size v 0 [] w'→v ≠ .slice none 0 0→XS P ops QE n rest (Bp env d v) w') :
 XS P ops QE n (⟨d,.buildSlice t 0 #[],ty,pos,Am,g⟩ :: rest) env w:=by
 obtain ⟨hu,i,hi,hs1,hs2⟩:=Gw (hT.sl Cx)
 refine XS.value hw (w':={ w with heap:=w.heap.push (.cells #[] e) }) (v := .slice (some ⟨w.heap.size,0,none⟩) 0 0) ?_ (k _ _ (.inr ⟨w.heap.size,0,[],rfl,Nat.le_refl _,by simp,by simp,by simp,hs.alloc _⟩) (by simp))
 simp only [execOp,Sem.run_bind,Instr.buildSlice,BB hu,Result.andThen_ok,sizeOf,CC hi,Sem.run_pure]
 simp [Instr.fill,newRow,newObj,Sem.run,Sem.run_bind]
 rw [show (Array.range 0).map (fun _=>(default:Value))=#[] by simp [Array.range]]
theorem St.En (hs:St wb D H w):St w D0 (H.map fun e=>(e.1,e.2.1,false)) w where
 at_:=fun e he=>by
  obtain ⟨e',he',rfl⟩:=List.mem_map.1 he
  exact hs.at_ e' he'
 nd:=by rw [List.map_map];exact hs.nd
 new:=fun p hp h=>by
  obtain ⟨e,he,rfl⟩:=List.mem_map.1 hp
  obtain ⟨e',he',rfl⟩:=List.mem_map.1 he
  cases h
 os:=rfl
 tape:=rfl
 output:=rfl
 size:=Nat.le_refl _
 frame:=fun _ _ _ _=>rfl
 ro:=by simp [D0]
 ap:=by simp [D0]
end
theorem St.AB {wb w:World} {D:Ctx} {H:List Bn} (hs:St wb D H w) (F:List Nat) (hF:∀ e∈H,e.2.2=true∨e.1∈F∨wb.heap[e.1]?=some e.2.1) (hD:∀ k∈D.dirty,k∈F):AA F wb w :=
 ⟨hs.os,hs.tape,hs.output,hs.size,fun k hk hn=>by
  by_cases h1:k∈H.map (·.1)
  ·obtain ⟨e,he,rfl⟩:=List.mem_map.1 h1
   rcases hF e he with h | h | h
   ·exact absurd hk (Nat.not_lt.2 (hs.new (e.1,e.2.2) (List.mem_map.2 ⟨e,he,rfl⟩) h))
   ·exact absurd h hn
   ·rw [hs.at_ e he,h]
  ·exact hs.frame k hk (fun h=>hn (hD k h)) h1⟩
theorem AA.step {w0 w1 w2:World} {F G:List Nat} (h:AA F w0 w1) (k:AA G w1 w2) (hG:∀ k∈G,k∈F∨w0.heap.size≤k):AA F w0 w2 :=
 (h.trans k).mono fun k hk hm=>by
  rcases List.mem_append.1 hm with hm | hm
  ·exact hm
  ·rcases hG k hm with h | h
   ·exact h
   ·omega
theorem AW {w:World} {a b:Nat} {ca cb:Array Value} {ta tb:TypeId} {fa fb:Nat × Nat} (h:w.heap[a]?=some (.cells ca ta fa)) (k:w.heap[b]?=some (.cells cb tb fb)) (hne:ta≠tb):a≠b:=fun e=>by
 subst e
 rw [h] at k
 cases k
 exact hne rfl
section
variable {P : Program} {ops : Array Oper} {E : List Nat} {H : List Bn} {QE : Exit → Env → World → Prop} {n : Nat} {env : Env} {w wb : World} {D : Ctx} {fuel : Nat} {listed : Array Bool}
theorem JR (i:Nat) {o:Oper} (hX:XH ops E QE n) (hi:ops[i]?=some o) (h:XS P ops (AV P ops E H QE n fuel (listed.setIfInBounds i true)) n [o] env w) (a:Act) (hf:Fits n env a) :
 wpOp P ops (lift n QE) i (fun a' w'=>SE E H (listed.setIfInBounds i true) w'∧MV P ops (lift n QE) (SE E H) fuel (listed.setIfInBounds i true) a' w') a w:=by
 have hd:RV n o=true:=List.all_eq_true.1 hX.dst o (by have:=Array.mem_of_getElem? hi;simpa using this)
 have h:=h (by simp [hd]) a hf
 have hp:∀ c a w,lift n (AV P ops E H QE n fuel (listed.setIfInBounds i true)) (.panic c) a w→lift n QE (.panic c) a w:=fun c a w ⟨env,hf,hq⟩=>⟨env,hf,hq⟩
 have ho:LetsOut (lift n (AV P ops E H QE n fuel (listed.setIfInBounds i true)))→LetsOut (lift n QE):=fun ⟨a,w,env,hf,hq⟩=>hq.elim
 unfold wpList at h
 unfold wpOp
 simp only [hi]
 split
 ·rename_i hw
  rw [if_pos hw] at h
  rcases h with h | ⟨h1,h2⟩
  ·refine .inl (upon_weaken hp ho (Oper.wp_mono (fun a' w' hn=>?_) h))
   simp only [wpList] at hn
   obtain ⟨env',hf',hS,hx⟩:=hn
   exact ⟨hS,hx a' hf'⟩
  ·exact .inr ⟨h1,ho h2⟩
 ·rename_i hw
  rw [if_neg hw] at h
  simp only [wpList] at h
  obtain ⟨env',hf',hS,hx⟩:=h
  exact ⟨hS,hx _ hf'⟩
theorem HL (i j:Nat) {d d':Option Nat} {op op':Op} {ty ty':Nat} {pos pos':String} {Am VR:Array Edge} {g g':Option (Nat × Bool)} (hX:XH ops E QE n) (hi:ops[i]?=some ⟨d,op,ty,pos,Am,g⟩:=by exact rfl) (hj:ops[j]?=some ⟨d',op',ty',pos',VR,g'⟩:=by exact rfl)
 (hr:Region.ready .any ops listed=[i,j]:=by kernel_rfl) (h1:XS P ops (AV P ops E H QE n fuel (listed.setIfInBounds i true)) n [⟨d,op,ty,pos,Am,g⟩] env w) (h2:XS P ops (AV P ops E H QE n fuel (listed.setIfInBounds j true)) n [⟨d',op',ty',pos',VR,g'⟩] env w):XA P ops E H QE n (fuel+1) listed env w:=by
 intro a hf
 refine ⟨fun h0=>(by rw [h0] at hr;cases hr),fun k hk=>?_⟩
 rw [hr] at hk
 simp only [List.mem_cons,List.not_mem_nil,or_false] at hk
 rcases hk with rfl | rfl
 ·exact JR _ hX hi h1 a hf
 ·exact JR _ hX hj h2 a hf
theorem dD (i j l:Nat) {d d' d'':Option Nat} {op op' vO:Op} {ty ty' tB:Nat} {pos pos' pos'':String} {Am VR pQ:Array Edge} {g g' g'':Option (Nat × Bool)} (hX:XH ops E QE n) (hi:ops[i]?=some ⟨d,op,ty,pos,Am,g⟩:=by exact rfl) (hj:ops[j]?=some ⟨d',op',ty',pos',VR,g'⟩:=by exact rfl) (hl:ops[l]?=some ⟨d'',vO,tB,pos'',pQ,g''⟩:=by exact rfl)
 (hr:Region.ready .any ops listed=[i,j,l]:=by kernel_rfl) (h1:XS P ops (AV P ops E H QE n fuel (listed.setIfInBounds i true)) n [⟨d,op,ty,pos,Am,g⟩] env w) (h2:XS P ops (AV P ops E H QE n fuel (listed.setIfInBounds j true)) n [⟨d',op',ty',pos',VR,g'⟩] env w)
 (h3:XS P ops (AV P ops E H QE n fuel (listed.setIfInBounds l true)) n [⟨d'',vO,tB,pos'',pQ,g''⟩] env w):XA P ops E H QE n (fuel+1) listed env w:=by
 intro a hf
 refine ⟨fun h0=>(by rw [h0] at hr;cases hr),fun k hk=>?_⟩
 rw [hr] at hk
 simp only [List.mem_cons,List.not_mem_nil,or_false] at hk
 rcases hk with rfl | rfl | rfl
 ·exact JR _ hX hi h1 a hf
 ·exact JR _ hX hj h2 a hf
 ·exact JR _ hX hl h3 a hf
theorem St.perm {H':List Bn} (hs:St wb D H w) (h:H'.Perm H):St wb D H' w :=
 { hs with
  at_:=fun e he=>hs.at_ e (h.mem_iff.1 he)
  nd:=(h.map _).nodup_iff.2 hs.nd
  new:=fun p hp=>hs.new p ((h.map _).mem_iff.1 hp)
  frame:=fun k h1 h2 h3=>hs.frame k h1 h2 (fun h4=>h3 ((h.map _).mem_iff.2 h4))
  ap:=fun e he h4=>hs.ap e he ((h.map _).mem_iff.1 h4) }
end
section
variable {ops : Array Oper} {QE : Exit → Env → World → Prop} {n : Nat} {rest : List Oper} {env : Env} {w wb : World} {d : Option Nat} {ty : Nat} {pos : String} {Am : Array Edge} {g : Option (Nat × Bool)}
theorem lh2 {t b off:Nat} {x:Operand} {cs:List Value} {E:TypeId} {fr:Nat × Nat} {v0 v1:Value} (hb:w.heap[b]?=some (.cells cs.toArray E fr)) (h0:cs[off]?=some v0) (h1:cs[off+1]?=some v1) (hw:BA ops env g=true:=by exact rfl) (ht:look t Gq.tks=some (true,2):=by exact rfl)
 (hp:ev env x = .pointer (some ⟨b,off,none⟩):=by exact rfl)
 (k:XS Tryz.prog ops QE n rest (Bp env d (.agg #[v0,v1])) w):XS Tryz.prog ops QE n (⟨d,.load t x,ty,pos,Am,g⟩ :: rest) env w :=
 have hc:Dc cs off 2 [v0,v1] := .cons h0 (.cons h1 .nil)
 xs_val hw (by simp [execOp,hp,Instr.loadAt,Instr.sureAddr,Sem.run_bind,Gk (AI.tk ht) hb hc.le,hc.eq.2]) k
end
def Ba (w:World) (e k:Nat) (v:Value) (n:Nat) (xs:List Value) (G:List Nat):Prop :=
 (v = .slice none 0 0∧n=0∧xs=[]∧G=[]) ∨
 ∃ (g cap:Nat) (cur:List Value),v = .slice (some ⟨g,0,none⟩) n cap∧G=[g]∧n≤cap∧cur.length=cap*k∧xs.length=n*k∧cur.take (n*k)=xs∧w.heap[g]?=some (.cells cur.toArray e (0,0))
section
variable {P : Program} {ops : Array Oper} {QE : Exit → Env → World → Prop} {n : Nat} {rest : List Oper} {env : Env} {w wb : World} {D : Ctx} {H : List Bn} {T : Lc}
 {d:Option Nat} {ty:Nat} {pos:String} {Am:Array Edge} {g:Option (Nat × Bool)}
theorem nG {t e size bytes:Nat} (hu:P.underlying t=some (.slice e)) {i:TypeInfo} (hi:P.info? e=some i) (hs1:i.size=size) (hs2:i.bytes=bytes) {z:Value} (hz:i.zero=some z) (KO:z.cells.size=size)
 {v:Value} {k:Nat} {xs news:List Value} {a:Addr} {c m:Nat} {G:List Nat} (hO:Ba w e size v k xs G) (hl:news.length=c*size) (hc0:0 < c) (hcs:∀ (j:Nat) u,news[j]?=some u→w.cell? (a.add j)=some u) (h1:∀ u∈news,u.oneCell'=true)
 (hk:(k+c)*bytes≤140737488355328) (hk':k+c≤9223372036854775807) :
 ∃ v' w',(Builtin.append_ #[t,t] ty #[v,.slice (some a) c m]).run P w = .ok v' w'∧(∃ G',Ba w' e size v' (k+c) (xs ++ news) G'∧∀ i∈G',i∈G∨w.heap.size≤i)∧AA G w w':=by
 subst hs1 hs2
 have hcb:c*i.bytes≤281474976710656:=by
  have:=Nat.mul_le_mul_right i.bytes (show c≤k+c by omega)
  omega
 rcases hO with ⟨rfl,rfl,rfl,rfl⟩ | ⟨g,cap,cur,rfl,rfl,hc,UB,hxl,iC,hg⟩
 ·have hr:=run_append_nil (P:=P) w t ty e i z hu hi hz a c m news hl hcs hc0 om hcb
  have hs:=(St.nil w).Uk.alloc (.cells (news.toArray ++ Builtin.zeroCells z.cells (grownCap w c 0 e - c)) e)
  refine ⟨_,_,hr,⟨[w.heap.size],.inr ⟨w.heap.size,grownCap w c 0 e,(news.toArray ++ Builtin.zeroCells z.cells (grownCap w c 0 e - c)).toList,by rw [Nat.zero_add],rfl,by rw [Nat.zero_add];exact grownCap_ge w c 0 e,?_,?_,?_,hs.get At.head⟩,by simp⟩,hs.AD rfl⟩
  ·have:=grownCap_ge w c 0 e
   simp only [Array.toList_append,List.length_append,LY,KO,hl]
   rw [← Nat.add_mul];congr 1;omega
  ·rw [Nat.zero_add,List.nil_append,hl]
  ·rw [List.nil_append,Nat.zero_add,Array.toList_append,List.take_append_of_le_length (by simp [hl])]
   exact List.take_of_length_le (by simp [hl])
 ·have hs0:=(St.nil w).AG hg (by simp)
  by_cases hroom:k+c≤cap
  ·have hfit:k*i.size+news.length≤cur.toArray.size:=by
    rw [hl,List.size_toArray,UB,← Nat.add_mul];exact Nat.mul_le_mul_right _ hroom
   have hr:=run_append_room (P:=P) w t ty e i hu hi g k cap cur.toArray hg a c m news hl hcs h1 hroom hfit
   simp only [List.size_toArray] at hfit
   have hs:=hs0.row At.head (cur.take (k*i.size) ++ news ++ cur.drop (k*i.size+news.length)).toArray
   refine ⟨_,_,hr,⟨[g],.inr ⟨g,cap,(cur.take (k*i.size) ++ news ++ cur.drop (k*i.size+news.length)),rfl,rfl,hroom,?_,?_,?_,hs.get At.head⟩,by simp⟩,hs.AB [g] (by simp) (by simp [D0])⟩
   ·simp only [List.length_append,List.length_take,List.length_drop]
    omega
   ·rw [List.length_append,hxl,hl,Nat.add_mul]
   ·rw [List.append_assoc,← List.append_assoc,iC,List.take_append_of_le_length (by rw [List.length_append,hxl,hl,Nat.add_mul];exact Nat.le_refl _)]
    exact List.take_of_length_le (by rw [List.length_append,hxl,hl,Nat.add_mul];exact Nat.le_refl _)
  ·have hold:∀ (j:Nat) u,xs[j]?=some u→w.cell? ((⟨g,0,none⟩:Addr).add j)=some u:=fun j u hj=>by
    rw [El]
    rw [← iC,List.getElem?_take] at hj
    split at hj
    ·simp [World.cell?,hg,hj]
    ·cases hj
   have hr:=run_append_grow (P:=P) w t ty e i z hu hi hz ⟨g,0,none⟩ k cap xs hxl hold a c m news hl hcs om om (growslice_fits om hk)
   have hge:=grownCap_ge w (k+c) cap e
   have hs:=hs0.Uk.alloc (.cells (xs.toArray ++ news.toArray ++ Builtin.zeroCells z.cells (grownCap w (k+c) cap e - (k+c))) e)
   refine ⟨_,_,hr,⟨[w.heap.size],.inr ⟨w.heap.size,grownCap w (k+c) cap e,(xs.toArray ++ news.toArray ++ Builtin.zeroCells z.cells (grownCap w (k+c) cap e - (k+c))).toList,rfl,rfl,hge,?_,?_,?_,hs.get At.head⟩,by simp⟩,hs.AB [g] (by simp) (by simp [D0])⟩
   ·simp only [Array.toList_append,List.length_append,LY,KO,hl,hxl]
    rw [← Nat.add_mul,← Nat.add_mul];congr 1;omega
   ·rw [List.length_append,hxl,hl,Nat.add_mul]
   ·rw [Array.toList_append,Array.toList_append,List.take_append_of_le_length (by simp [hxl,hl,Nat.add_mul])]
    exact List.take_of_length_le (by simp [hxl,hl,Nat.add_mul])
theorem CM (hT:Bf P T) {t e size bytes:Nat} {zs news:List Value} {x y:Operand} {v:Value} {k c m:Nat} {a:Addr} {xs:List Value} {G:List Nat} (hw:BA ops env g=true) (Cx:look t T.sls=some (e,size,bytes)) (hz:look e T.zs=some zs) (hzl:Nat.beq zs.length size=true)
 (hx:ev env x=v) (hy:ev env y = .slice (some a) c m) (hl:news.length=c*size) (hc0:0 < c) (hcs:∀ (j:Nat) u,news[j]?=some u→w.cell? (a.add j)=some u) (h1:∀ u∈news,u.oneCell'=true) (hO:Ba w e size v k xs G)
 (hk:(k+c)*bytes≤140737488355328) (hk':k+c≤9223372036854775807) (kk:∀ v' w',(∃ G',Ba w' e size v' (k+c) (xs ++ news) G'∧∀ i∈G',i∈G∨w.heap.size≤i)→AA G w w'→XS P ops QE n rest (Bp env d v') w') :
 XS P ops QE n (⟨d,.call { callee := .builtin .append,args:=#[x,y],argTypes:=#[t,t] },ty,pos,Am,g⟩ :: rest) env w:=by
 obtain ⟨hu,i,hi,hs1,hs2⟩:=Gw (hT.sl Cx)
 obtain ⟨i',z,hi',R7,KO⟩:=TA (hT.z hz)
 rw [hi] at hi';cases hi'
 obtain ⟨v',w',hr,h2,h3⟩:=nG (P:=P) (ty:=ty) (m:=m) hu hi hs1 hs2 R7 (by rw [KO];simpa using Nat.eq_of_beq_eq_true hzl) hO hl hc0 hcs h1 hk hk'
 refine XS.value hw (v:=v') (w':=w') ?_ (kk v' w' h2 h3)
 simp [execOp,resolve,Sem.run_bind,invoke,builtin,hx,hy,hr]
end
theorem Ba.lt {w:World} {e k n:Nat} {v:Value} {xs:List Value} {G:List Nat} (h:Ba w e k v n xs G):∀ b∈G,b < w.heap.size:=by
 rcases h with ⟨_,_,_,rfl⟩ | ⟨g,cap,cur,_,rfl,_,_,_,_,hg⟩
 ·intro b hb;cases hb
 ·intro b hb
  obtain rfl:=List.mem_singleton.1 hb
  exact lt_of_block hg
theorem Ba.keep {w w':World} {e k n:Nat} {v:Value} {xs:List Value} {G F:List Nat} (h:Ba w e k v n xs G) (ho:AA F w w') (hd:∀ b∈G,b∉F):Ba w' e k v n xs G:=by
 rcases h with ⟨h1,h2,h3,h4⟩ | ⟨g,cap,cur,h1,rfl,h3,h4,h5,h6,hg⟩
 ·exact .inl ⟨h1,h2,h3,h4⟩
 ·exact .inr ⟨g,cap,cur,h1,rfl,h3,h4,h5,h6,ho.block hg (hd g List.mem_cons_self)⟩
section
variable {P : Program} {ops : Array Oper} {E : List Nat} {H HH : List Bn} {QE : Exit → Env → World → Prop} {n : Nat} {env : Env} {w wb : World} {D : Ctx} {fuel : Nat} {T : Lc}
theorem St.Ro {b:Nat} {o:Obj} {w':World} (hs:St wb D H w) (ho:AA [] w w') (hb:w'.heap[b]?=some o) (hz:w.heap.size≤b):St wb D ((b,o,true) :: H) w':=by
 have h:=hs.AK ho
 have hlt:∀ {k:Nat} {o':Obj},w.heap[k]?=some o'→k≠b:=fun hk e=>by have:=lt_of_block hk;omega
 refine ⟨fun e he=>?_,?_,fun p hp hq=>?_,h.os,h.tape,h.output,h.size,fun k hk hd hm=>?_,h.ro,fun e he hm=>?_⟩
 ·rcases List.mem_cons.1 he with rfl | he
  ·exact hb
  ·exact h.at_ e he
 ·rw [List.map_cons,List.nodup_cons]
  refine ⟨fun hm=>?_,h.nd⟩
  obtain ⟨e,he,h1⟩:=List.mem_map.1 hm
  exact hlt (hs.at_ e he) h1
 ·rw [List.map_cons,List.mem_cons] at hp
  rcases hp with rfl | hp
  ·exact Nat.le_trans hs.size hz
  ·exact h.new p hp hq
 ·rw [List.map_cons,List.mem_cons,not_or] at hm
  exact h.frame k hk hd hm.2
 ·rw [List.map_cons,List.mem_cons] at hm
  rcases hm with hm | hm
  ·exact hlt (hs.ro e he) hm
  ·exact h.ap e he hm
def qF (I:World→Prop):Prop:=∀ w w',AA [] w w'→I w→I w'
def Ke (wb:World) (D:Ctx) (H:List Bn) (o:Obj) (Y:Nat→Value):Bool→Value→World→Prop
 | false,_,w=>St wb D H w
 | true,X,w=>∃ b,X=Y b∧St wb D ((b,o,true) :: H) w
structure Er (wb:World) (D:Ctx) (H:List Bn) (o:Obj) (Y:Nat→Value) (I:World→Prop) (f:Bool) (X:Value) (w:World):Prop where
 core:Ke wb D H o Y f X w
 inv:I w
 lasts:qF I
theorem Ke.st {o:Obj} {Y:Nat→Value}:∀ {f:Bool} {X:Value},Ke wb D H o Y f X w→St wb D H w
 | false,_,h=>h
 | true,_,⟨_,_,h⟩=>h.Bt
theorem Er.st {o:Obj} {Y:Nat→Value} {I:World→Prop} {f:Bool} {X:Value} (h:Er wb D H o Y I f X w):St wb D H w:=h.core.st
theorem Ke.only {o:Obj} {Y:Nat→Value} {w':World} (ho:AA [] w w'):∀ {f:Bool} {X:Value},Ke wb D H o Y f X w→Ke wb D H o Y f X w'
 | false,_,h=>St.AK h ho
 | true,_,⟨b,e,h⟩=>⟨b,e,h.AK ho⟩
theorem Er.only {o:Obj} {Y:Nat→Value} {I:World→Prop} {f:Bool} {X:Value} {w':World} (h:Er wb D H o Y I f X w) (ho:AA [] w w'):Er wb D H o Y I f X w':=⟨h.core.only ho,h.lasts _ _ ho h.inv,h.lasts⟩
theorem Ke.call {o:Obj} {Y:Nat→Value} {w':World} {F:List Nat} (ho:AA F w w') (hl:∀ k∈F,k < wb.heap.size) (hF:∀ k∈F,k∉H.map (·.1)) (hR:∀ k∈F,k∉D.ro.map (·.1)):∀ {f:Bool} {X:Value},Ke wb D H o Y f X w→Ke wb ⟨F ++ D.dirty,D.ro⟩ H o Y f X w'
 | false,_,h=>St.call h ho hF hR
 | true,_,⟨b,e,h⟩=>⟨b,e,h.call ho (fun k hk hm=>by
  simp only [List.map_cons,List.mem_cons] at hm
  rcases hm with rfl | hm
  ·have:=h.new (k,true) (by simp) rfl
   have:=hl k hk
   simp only at *
   omega
  ·exact hF k hk hm) hR⟩
theorem Er.Ro {o o':Obj} {Y:Nat→Value} {I:World→Prop} {w':World} {b':Nat} (ho:AA [] w w') (hb:w'.heap[b']?=some o') (hz:w.heap.size≤b'):∀ {f:Bool} {X:Value},Er wb D H o Y I f X w→Er wb D ((b',o',true) :: H) o Y I f X w'
 | false,_,⟨h,h1,h2⟩=>⟨St.Ro h ho hb hz,h2 _ _ ho h1,h2⟩
 | true,_,⟨⟨b,e,h⟩,h1,h2⟩=>⟨⟨b,e,(h.Ro ho hb hz).perm (List.Perm.swap _ _ _)⟩,h2 _ _ ho h1,h2⟩
def fl (f:Bool):Nat:=bif f then 0 else 1
def Ri (P:Program) (ops:Array Oper) (n:Nat) (o:Obj) (Y:Nat→Value) (d:Nat) (oa:Oper) (g:Value→Env):Prop :=
 ∀ (QE:Exit→Env→World→Prop) (X:Value) (w:World),(∀ b w',AA [] w w'→w'.heap[b]?=some o→w.heap.size≤b→QE .normal (upd (g X) d (Y b)) w')→XS P ops QE n [oa] (g X) w
theorem AR (hT:Bf P T) {t d ty:Nat} {pos:String} {Am:Array Edge} {cs:List Value} {g:Value→Env} (hz:look t T.zs=some cs) :
 Ri P ops n (.cells cs.toArray t (0,0)) (fun b => .pointer (some ⟨b,0,none⟩)) d ⟨some d,.alloc t,ty,pos,Am,none⟩ g:=fun QE X w k =>
 xs_alloc hT hz rfl (St.nil w) fun b w' _ hs'=>XS.nil (k b w' (hs'.AD rfl) (hs'.get At.head) (hs'.new (b,true) (by simp) rfl))
theorem EG (hT:Bf P T) {t e size bytes len d ty:Nat} {pos:String} {Am:Array Edge} {parts:Array (Nat × Operand)} {zs cs:List Value} {g:Value→Env} (Cx:look t T.sls=some (e,size,bytes)) (hz:look e T.zs=some zs) (hzl:Nat.beq zs.length size=true) (Oa:Nat.ble (len*size) 16777216=true) (hps:Nat.beq (len*size) 0=false)
 (hb:∀ X,CU (g X) (Mo len size) (Ql zs (len*size)) parts.toList cs) :
 Ri P ops n (.cells cs.toArray e (0,0)) (fun b => .slice (some ⟨b,0,none⟩) len len) d ⟨some d,.buildSlice t len parts,ty,pos,Am,none⟩ g:=fun QE X w k =>
 Hz hT rfl Cx hz hzl Oa hps (hb X) (St.nil w) fun b w' _ hs'=>XS.nil (k b w' (hs'.AD rfl) (hs'.get At.head) (hs'.new (b,true) (by simp) rfl))
theorem T3 {a d:Nat} {oa:Oper} {o:Obj} {Y:Nat→Value} {I:World→Prop} {m:Nat} {listed:Array Bool} {g:Value→Env} {X Z:Value} (hM:Ri P ops n o Y d oa g) (hp:Er wb D H o Y I false Z w)
 (hS:∀ w',St wb D H w'→SE E HH (listed.setIfInBounds a true) w')
 (k:∀ b w',I w'→St wb D ((b,o,true) :: H) w'→XA P ops E HH QE n m (listed.setIfInBounds a true) (upd (g X) d (Y b)) w') :
 XS P ops (AV P ops E HH QE n m (listed.setIfInBounds a true)) n [oa] (g X) w :=
 hM _ X w fun b w' ho hb hz=>⟨hS _ (St.AK hp.core ho),k b w' (hp.lasts _ _ ho hp.inv) (St.Ro hp.core ho hb hz)⟩
theorem BH (c a:Nat) {d ta:Nat} {Yd:Op} {Sm:String} {SZ:Array Edge} {dc:Option Nat} {opc:Op} {zZ:Nat} {xC:String} {yB:Array Edge} {gc:Option (Nat × Bool)} {o:Obj} {Y:Nat→Value} {I:World→Prop} {g:Value→Env} {L:Bool→Array Bool} {f:Bool} {X:Value}
 (hX:XH ops E QE n) (hp:Er wb D H o Y I f X w) (ha:ops[a]?=some ⟨some d,Yd,ta,Sm,SZ,none⟩) (hc:ops[c]?=some ⟨dc,opc,zZ,xC,yB,gc⟩)
 (hM:Ri P ops n o Y d ⟨some d,Yd,ta,Sm,SZ,none⟩ g)
 (hL:(L false).setIfInBounds a true=L true) (MJ:Region.ready .any ops (L true)=[c]) (LK:(Region.ready .any ops (L false)).all (fun i=>Nat.beq i c || Nat.beq i a)=true) (wJ:(Region.ready .any ops (L false)).isEmpty=false)
 (hg:∀ X Y,upd (g X) d Y=g Y) (hS:∀ w',St wb D H w'→SE E HH (L true) w')
 (step:∀ f X w,Er wb D H o Y I f X w→XS P ops (AV P ops E HH QE n (fl f+fuel) ((L f).setIfInBounds c true)) n [⟨dc,opc,zZ,xC,yB,gc⟩] (g X) w) :
 XA P ops E HH QE n (fl f+(fuel+1)) (L f) (g X) w:=by
 have h1:∀ X w,Er wb D H o Y I true X w→XA P ops E HH QE n (fuel+1) (L true) (g X) w:=fun X w hp=>by
  have:=step true X w hp
  simp only [fl,cond_true,Nat.zero_add] at this
  exact aO c hX hc MJ this
 cases f with
 | true=>simpa [fl] using h1 X w hp
 | false =>
   have e1:fl false+(fuel+1)=(fuel+1)+1:=by simp [fl];omega
   rw [e1]
   intro act hf
   refine ⟨fun h0=>(by rw [h0] at wJ;cases wJ),fun i hi=>?_⟩
   have hi':=List.all_eq_true.1 LK i hi
   simp only [Bool.or_eq_true] at hi'
   rcases hi' with hi' | hi'
   ·obtain rfl:i=c:=Nat.eq_of_beq_eq_true hi'
    have h2:=step false X w hp
    have e2:fl false+fuel=fuel+1:=by simp [fl];omega
    rw [e2] at h2
    exact JR i hX hc h2 act hf
   ·obtain rfl:i=a:=Nat.eq_of_beq_eq_true hi'
    have h2:XS P ops (AV P ops E HH QE n (fuel+1) ((L false).setIfInBounds i true)) n [⟨some d,Yd,ta,Sm,SZ,none⟩] (g X) w:=by
     refine T3 hM hp (by rw [hL];exact hS) fun b w' hI hs'=>?_
     rw [hL,hg]
     exact h1 _ w' ⟨⟨b,rfl,hs'⟩,hI,hp.lasts⟩
    exact JR i hX ha h2 act hf
theorem B9 (a:Nat) {d ta:Nat} {Yd:Op} {Sm:String} {SZ:Array Edge} {o:Obj} {Y:Nat→Value} {I:World→Prop} {g:Value→Env} {L:Bool→Array Bool} {f:Bool} {X:Value}
 (hX:XH ops E QE n) (hp:Er wb D H o Y I f X w) (ha:ops[a]?=some ⟨some d,Yd,ta,Sm,SZ,none⟩)
 (hM:Ri P ops n o Y d ⟨some d,Yd,ta,Sm,SZ,none⟩ g)
 (hL:(L false).setIfInBounds a true=L true) (LK:Region.ready .any ops (L false)=[a])
 (hg:∀ X Y,upd (g X) d Y=g Y) (hS:∀ w',St wb D H w'→SE E HH (L true) w')
 (k:∀ b w',I w'→St wb D ((b,o,true) :: H) w'→XA P ops E HH QE n fuel (L true) (g (Y b)) w') :
 XA P ops E HH QE n (fl f+fuel) (L f) (g X) w:=by
 cases f with
 | true =>
   obtain ⟨⟨b,rfl,hs⟩,hI,_⟩:=hp
   have:=k b w hI hs
   simpa [fl] using this
 | false =>
   have e1:fl false+fuel=fuel+1:=by simp [fl];omega
   rw [e1]
   refine aO a hX ha LK ?_
   refine T3 hM hp (by rw [hL];exact hS) fun b w' hI hs'=>?_
   rw [hL,hg]
   exact k b w' hI hs'
theorem Vg (a d:Nat) (o:Obj) (Y:Nat→Value) {listed:Array Bool} (hs:St wb D H w) (hl:listed.setIfInBounds a false=listed)
 (k:∀ f X w,Er wb D H o Y (fun _=>True) f X w→XA P ops E HH QE n (fl f+fuel) (listed.setIfInBounds a f) (upd env d X) w):XA P ops E HH QE n (fuel+1) listed env w:=by
 have h:=k false (env d) w ⟨hs,trivial,fun _ _ _ _=>trivial⟩
 have e1:fl false+fuel=fuel+1:=by simp [fl];omega
 have e2:upd env d (env d)=env:=funext fun i=>by
  by_cases e:i=d
  ·subst e;rw [Eh]
  ·rw [FD _ _ e]
 rwa [e1,hl,e2] at h
end
section
variable {ops : Array Oper} {E : List Nat} {H HH : List Bn} {QE : Exit → Env → World → Prop} {n : Nat} {env : Env} {w wb : World} {D : Ctx} {fuel : Nat}
theorem A4 {d:Nat} {X Y:Value}:upd (upd env d X) d Y=upd env d Y:=funext fun i=>by
 by_cases h:i=d
 ·subst h;rw [Eh,Eh]
 ·rw [FD _ _ h,FD _ _ h,FD _ _ h]
theorem A3 {d t:Nat} {v Y:Value} {e1 e2:Env} (h:upd e1 d Y=e2) (hne:Nat.beq t d=false):upd (upd e1 t v) d Y=upd e2 t v:=funext fun i=>by
 have hne:t≠d:=fun e=>by rw [e,Nat.beq_refl] at hne;cases hne
 have h':=congrFun h i
 by_cases hi:i=d
 ·subst hi
  rw [Eh] at h' ⊢
  rw [FD _ _ (Ne.symm hne),← h']
 ·rw [FD _ _ hi] at h' ⊢
  by_cases ht:i=t
  ·subst ht;rw [Eh,Eh]
  ·rw [FD _ _ ht,FD _ _ ht,h']
theorem GS (a d:Nat) {cs:List Value} {t ty:Nat} {pos:String} {Am:Array Edge} {listed:Array Bool} (hs:St wb D H w) (ha:ops[a]?=some ⟨some d,.alloc t,ty,pos,Am,none⟩:=by exact rfl) (hz:look t Gq.zs=some cs:=by exact rfl) (hl:listed.setIfInBounds a false=listed:=by kernel_rfl)
 (k:∀ f X w,Er wb D H (.cells cs.toArray t (0,0)) (fun b => .pointer (some ⟨b,0,none⟩)) (fun _=>True) f X w→XA Tryz.prog ops E HH QE n (fl f+fuel) (listed.setIfInBounds a f) (upd env d X) w):XA Tryz.prog ops E HH QE n (fuel+1) listed env w:=Vg a d _ _ hs hl k
theorem kF (a d:Nat) (cs:List Value) {t e size bytes len ty:Nat} {parts:Array (Nat × Operand)} {pos:String} {Am:Array Edge} {listed:Array Bool} (hs:St wb D H w) (ha:ops[a]?=some ⟨some d,.buildSlice t len parts,ty,pos,Am,none⟩:=by exact rfl) (Cx:look t Gq.sls=some (e,size,bytes):=by exact rfl) (hl:listed.setIfInBounds a false=listed:=by kernel_rfl)
 (k:∀ f X w,Er wb D H (.cells cs.toArray e (0,0)) (fun b => .slice (some ⟨b,0,none⟩) len len) (fun _=>True) f X w→XA Tryz.prog ops E HH QE n (fl f+fuel) (listed.setIfInBounds a f) (upd env d X) w):XA Tryz.prog ops E HH QE n (fuel+1) listed env w:=Vg a d _ _ hs hl k
theorem vI {o:Obj} {Y:Nat→Value} {I:World→Prop} {f:Bool} {X:Value} {rest:List Oper} {d:Option Nat} {ty:Nat} {pos:String} {Am:Array Edge} {g:Option (Nat × Bool)} {t e size bytes len:Nat} {parts:Array (Nat × Operand)} {zs cs:List Value} (hp:Er wb D H o Y I f X w) (hw:BA ops env g=true:=by exact rfl) (Cx:look t Gq.sls=some (e,size,bytes):=by exact rfl) (hz:look e Gq.zs=some zs:=by exact rfl) (hzl:Nat.beq zs.length size=true:=by exact rfl) (Oa:Nat.ble (len*size) 16777216=true:=by exact rfl) (hps:Nat.beq (len*size) 0=false:=by exact rfl)
 (hb:CU env (Mo len size) (Ql zs (len*size)) parts.toList cs:=by (repeat (first | exact CU.nil | (apply CU.one;exact rfl;(conv=>lhs;whnf);exact rfl;(repeat (first | exact Ai.nil | apply Ai.skip | apply Ai.cons))) | (apply CU.agg;exact rfl;exact rfl;exact rfl;(repeat (first | exact Ai.nil | apply Ai.skip | apply Ai.cons))))))
 (k:∀ b w',AA [] w w'→Er wb D ((b,.cells cs.toArray e,true) :: H) o Y I f X w'→XS Tryz.prog ops QE n rest (Bp env d (.slice (some ⟨b,0,none⟩) len len)) w'):XS Tryz.prog ops QE n (⟨d,.buildSlice t len parts,ty,pos,Am,g⟩ :: rest) env w :=
 Hz AI hw Cx hz hzl Oa hps hb (St.nil w) fun b w' _ h=>k b w' (h.AD rfl) (hp.Ro (h.AD rfl) (h.get At.head) (h.new (b,true) (by simp) rfl))
theorem St.fresh (hs:St wb D H w) (hall:(H.all fun e=>e.2.2)=true) {k:Nat} (hk:k < wb.heap.size):k∉H.map (·.1):=fun hm=>by
 obtain ⟨e,he,rfl⟩:=List.mem_map.1 hm
 have h1:=List.all_eq_true.1 hall e he
 have:=hs.new (e.1,e.2.2) (List.mem_map.2 ⟨e,he,rfl⟩) h1
 simp only at this
 omega
theorem Er.bI {o:Obj} {Y:Nat→Value} {I J:World→Prop} {w':World} {F:List Nat} {f:Bool} {X:Value} (hp:Er wb D H o Y I f X w) (ho:AA F w w') (hl:∀ k∈F,k < wb.heap.size) (hall:(H.all fun e=>e.2.2)=true) (hR:D.ro=[]) (hJ:J w') (lJ:qF J):Er wb ⟨F ++ D.dirty,D.ro⟩ H o Y J f X w' :=
 ⟨hp.core.call ho hl (fun k hk=>hp.st.fresh hall (hl k hk)) (by simp [hR]),hJ,lJ⟩
theorem St.bI {w':World} {F:List Nat} (hs:St wb D H w) (ho:AA F w w') (hl:∀ k∈F,k < wb.heap.size) (hall:(H.all fun e=>e.2.2)=true) (hR:D.ro=[]):St wb ⟨F ++ D.dirty,D.ro⟩ H w' :=
 hs.call ho (fun k hk=>hs.fresh hall (hl k hk)) (by simp [hR])
end
def Cn (w:World) (E k:Nat) (v:Value) (xs:List (List Value)):Prop :=
 ∃ ad cap,v = .slice ad xs.length cap∧(xs≠[]→∃ (b off:Nat) (cs:List Value) (fz:Nat × Nat),ad=some ⟨b,off,none⟩∧xs.length≤cap∧w.heap[b]?=some (.cells cs.toArray E fz)∧∀ (i:Nat) x,xs[i]?=some x→Dc cs (off+i*k) k x)
theorem Cn.nil (w:World) (E k:Nat):Cn w E k (.slice none 0 0) []:=⟨none,0,rfl,fun h=>absurd rfl h⟩
theorem Cn.keep {w w':World} {E k:Nat} {v:Value} {xs:List (List Value)} {F:List Nat} (h:Cn w E k v xs) (ho:AA F w w') (hF:∀ b∈F,∀ cs fz,w.heap[b]?≠some (.cells cs E fz)):Cn w' E k v xs:=by
 obtain ⟨ad,cap,rfl,h⟩:=h
 refine ⟨ad,cap,rfl,fun hn=>?_⟩
 obtain ⟨b,off,cs,fz,h1,h2,h3,h4⟩:=h hn
 exact ⟨b,off,cs,fz,h1,h2,ho.block h3 (fun hm=>hF b hm _ _ h3),h4⟩
theorem Cn.only {w w':World} {E k:Nat} {v:Value} {xs:List (List Value)} (h:Cn w E k v xs) (ho:AA [] w w'):Cn w' E k v xs:=h.keep ho (by simp)
theorem pick_of {cs:List Value}:∀ {vs:List Value} {off m:Nat},vs.length=m→(cs.drop off).take m=vs→Dc cs off m vs
 | [],off,m,hm,h=>by subst hm;exact .nil
 | v :: vs,off,m,hm,h=>by
   subst hm
   have hlt:off < cs.length:=by
    rcases Nat.lt_or_ge off cs.length with h' | h'
    ·exact h'
    ·rw [List.drop_eq_nil_of_le h'] at h;simp at h
   rw [List.drop_eq_getElem_cons hlt] at h
   simp only [List.length_cons,List.take_succ_cons,List.cons.injEq] at h
   exact .cons (by rw [List.getElem?_eq_getElem hlt,h.1]) (pick_of rfl h.2)
theorem Qm {k:Nat}:∀ {xs:List (List Value)} {i:Nat} {x:List Value},(∀ y∈xs,y.length=k)→xs[i]?=some x→(xs.flatten.drop (i*k)).take k=x
 | [],i,x,_,h=>by simp at h
 | y :: xs,0,x,hk,h=>by
   have h1:=hk y (by simp)
   simp only [List.getElem?_cons_zero,Option.some.injEq] at h
   subst h;subst h1
   simp
 | y :: xs,i+1,x,hk,h=>by
   have h1:=hk y (by simp)
   simp only [List.getElem?_cons_succ] at h
   have ih:=Qm (fun z hz=>hk z (List.mem_cons_of_mem _ hz)) h
   rw [List.flatten_cons,List.drop_append,List.drop_eq_nil_of_le (by rw [h1,Nat.succ_mul];omega),List.nil_append,h1,Nat.succ_mul,Nat.add_sub_cancel]
   exact ih
theorem Ba.ls {w:World} {E k n:Nat} {v:Value} {flat:List Value} {G:List Nat} (h:Ba w E k v n flat G) {xs:List (List Value)} (hf:flat=xs.flatten) (hn:n=xs.length) (hk:∀ x∈xs,x.length=k):Cn w E k v xs:=by
 subst hn
 rcases h with ⟨rfl,h0,hx,_⟩ | ⟨g,cap,cur,rfl,_,hc,hl,hxl,ht,hg⟩
 ·have:xs=[]:=by simpa using h0
  subst this
  exact Cn.nil w E k
 ·refine ⟨_,cap,rfl,fun _=>⟨g,0,cur,(0,0),rfl,hc,hg,fun i x hi=>?_⟩⟩
  have hi':i < xs.length:=by
   rcases Nat.lt_or_ge i xs.length with h | h
   ·exact h
   ·rw [List.getElem?_eq_none h] at hi;cases hi
  have qA:=hk x (List.mem_of_getElem? hi)
  refine pick_of qA ?_
  have e:=Qm hk hi
  rw [← hf,← ht,List.drop_take,List.take_take,Nat.min_eq_left] at e
  ·rw [Nat.zero_add];exact e
  ·rw [← Nat.sub_mul]
   exact Nat.le_mul_of_pos_left k om
def IC:List Int→Int
 | []=>0
 | d :: l=>l.foldl (fun a b=>if b < a then b else a) d
def IP:List Int→Int
 | []=>0
 | d :: l=>l.foldl (fun a b=>if b > a then b else a) d
theorem jY (l:List Int) (d:Int):IC (l ++ [d])=if l=[] then d else if d < IC l then d else IC l:=by
 cases l with
 | nil=>rfl
 | cons a l=>exact (List.foldl_append ..)
theorem iG (l:List Int) (d:Int):IP (l ++ [d])=if l=[] then d else if d > IP l then d else IP l:=by
 cases l with
 | nil=>rfl
 | cons a l=>exact (List.foldl_append ..)
section
variable {ops : Array Oper} {QE : Exit → Env → World → Prop} {n : Nat} {rest : List Oper} {env : Env} {w wb : World} {d : Option Nat} {ty : Nat} {pos : String} {Am : Array Edge} {g : Option (Nat × Bool)}
theorem KH {t b off m:Nat} {x:Operand} {cs vs:List Value} {E:TypeId} {fr:Nat × Nat} (hb:w.heap[b]?=some (.cells cs.toArray E fr)) (hc:Dc cs off (m+1) vs) (hw:BA ops env g=true:=by exact rfl) (ht:look t Gq.tks=some (true,m+1):=by exact rfl)
 (hp:ev env x = .pointer (some ⟨b,off,none⟩):=by exact rfl)
 (k:XS Tryz.prog ops QE n rest (Bp env d (.agg vs.toArray)) w):XS Tryz.prog ops QE n (⟨d,.load t x,ty,pos,Am,g⟩ :: rest) env w :=
 xs_val hw (by simp [execOp,hp,Instr.loadAt,Instr.sureAddr,Sem.run_bind,Gk (AI.tk ht) hb hc.le,hc.eq.2]) k
end
end Go.Proofs.Q0
namespace Go.Proofs.Q0
open Go Go.RowKit
attribute [local irreducible] XS XC XA AX AO A7 A0 AZ A8 Aa AV SE
theorem Yf (x:Int):x=x / 4294967296*4294967296+x % 4294967296:=by omega
theorem HD {a b m:Int} (ha:0≤a) (eH:a≤m) (hb:0≤b) (hb':b≤m):0≤a*b∧a*b≤m*m :=
 ⟨Int.mul_nonneg ha hb,Int.mul_le_mul eH hb' hb (Int.le_trans ha eH)⟩
theorem Q7 {a b c d:Int} (h1:a=c) (h2:b=d):packed [Value.int .u64 a,.int .u64 b] = .tuple #[.int .u64 c,.int .u64 d]:=by rw [h1,h2];rfl
theorem O4 (x y:Int) (hx0:0≤x) (hx1:x < 18446744073709551616) (hy0:0≤y) (hy1:y < 18446744073709551616) (w0:World) :
 AM Tryz.prog 186 #[.int .u64 x,.int .u64 y] w0 fun v w'=>v = .tuple #[.int .u64 (x*y / 18446744073709551616),.int .u64 (x*y % 18446744073709551616)]∧AA [] w0 w':=by
 have hs:=St.nil w0
 refine AQ Tryz.func186 Tryz.ntmps186 (k:=?_)
 refine Ja ?_
 refine AF ?_
 refine ⟨?_,hs.AD rfl⟩
 clear hs
 have h1:=Yf x
 have h2:=Yf y
 have a0:=Int.emod_nonneg x (show (4294967296:Int)≠0 by decide)
 have a0':=Int.emod_lt_of_pos x (show (0:Int) < 4294967296 by decide)
 have b0:=Int.emod_nonneg y (show (4294967296:Int)≠0 by decide)
 have b0':=Int.emod_lt_of_pos y (show (0:Int) < 4294967296 by decide)
 have a1:0≤x / 4294967296∧x / 4294967296≤4294967295:=by omega
 have b1:0≤y / 4294967296∧y / 4294967296≤4294967295:=by omega
 simp only [wrap_u64]
 generalize x / 4294967296=p at *
 generalize x % 4294967296=q at *
 generalize y / 4294967296=r at *
 generalize y % 4294967296=s at *
 have key:x*y=p*r*18446744073709551616+(p*s+q*r)*4294967296+q*s:=by grind
 have k1:=HD a1.1 a1.2 b1.1 b1.2
 have k2:=HD a1.1 a1.2 b0 (show s≤4294967295 by omega)
 have k3:=HD a0 (show q≤4294967295 by omega) b1.1 b1.2
 have k4:=HD a0 (show q≤4294967295 by omega) b0 (show s≤4294967295 by omega)
 generalize x*y=z at *
 generalize p*r=e1 at *
 generalize p*s=e2 at *
 generalize q*r=e3 at *
 generalize q*s=e4 at *
 clear h1 h2 a0 a0' b0 b0' a1 b1 hx0 hx1 hy0 hy1
 refine Q7 ?_ ?_ <;> omega
def sgn (s:Int):Int:=if s < 170141183460469231731687303715884105728 then s else s - 340282366920938463463374607431768211456
theorem sgn_in {s:Int} (h0:0≤s) (h1:s < 340282366920938463463374607431768211456):A9 (sgn s):=by unfold sgn A9;split <;> omega
theorem agg_sgn {s hi lo:Int} (h0:0≤s) (h1:s < 340282366920938463463374607431768211456) (h2:hi=s / 18446744073709551616) (h3:lo=s % 18446744073709551616):Value.agg #[.int .i64 (IntKind.i64.wrap hi),.int .u64 lo]=wv (sgn s):=by
 subst h2 h3
 simp only [wrap_i64]
 unfold sgn
 split <;> refine agg_ok ?_ ?_ <;> omega
theorem TE {v:Value} {x:Int} (hv:v=wv x) (hx:A9 x) (w0:World):AM Tryz.prog 127 #[v] w0 fun v w'=>v=wv (Oe x)∧AA [] w0 w':=by subst hv;exact Qe x hx w0
theorem Zx (s:Int) (h0:0≤s) (h1:s < 340282366920938463463374607431768211456) (neg:Bool) (w0:World) :
 AM Tryz.prog 187 #[.int .u64 (s / 18446744073709551616),.int .u64 (s % 18446744073709551616),.bool neg] w0 fun v w'=>v=EU (bif neg then -s else s)∧AA [] w0 w':=by
 have hs:=St.nil w0
 cases neg
 ·refine AQ Tryz.func187 Tryz.ntmps187 (k:=?_)
  repeat' (first|refine vs (k:=?_)|refine ps (k:=?_)|refine Al ?_|refine Nx.h ?_|refine ES ?_|(refine AU hs (k:=?_);intro w hs)|(refine al hs (k:=?_);intro b w hz hs)|refine Au rfl (fun hc=>?_) fun hc=>?_|fail)
  all_goals (refine AF ?_)
  all_goals refine ⟨?_,hs.AD rfl⟩
  all_goals clear hs
  all_goals simp only [wrap_i64,cond_false]
  ·refine JO ?_ ?_ ?_
   all_goals (try unfold A9)
   all_goals omega
  ·refine JZ ?_
   unfold A9
   omega
 ·refine AQ Tryz.func187 Tryz.ntmps187 (k:=?_)
  repeat' (first|refine vs (k:=?_)|refine ps (k:=?_)|refine Al ?_|refine Nx.h ?_|refine Ew ?_|refine ES ?_|(refine AU hs (k:=?_);intro w hs)|(refine al hs (k:=?_);intro b w hz hs)|((with_reducible apply BM);exact rfl;exact rfl;intro c hc;(fail_if_success have:true=c:=hc);(fail_if_success have:false=c:=hc);cases c)|refine Au rfl (fun hc=>?_) fun hc=>?_|fail)
  all_goals try ((with_reducible apply Kj);exact rfl;exact rfl;exact TE (agg_sgn h0 h1 rfl rfl) (sgn_in h0 h1) _;rintro v w' ⟨rfl,ho⟩;replace hs:=hs.AK ho;repeat' (first|refine Sb ?_|(refine AU hs (k:=?_);intro w hs)|fail))
  all_goals (refine AF ?_)
  all_goals refine ⟨?_,hs.AD rfl⟩
  all_goals clear hs
  all_goals simp only [cond_true,Oe,sgn]
  all_goals simp at *
  all_goals first
   | (refine JZ ?_;unfold A9;omega)
   | (refine JO ?_ ?_ ?_ <;> (try unfold A9) <;> (try split) <;> (try split) <;> omega)
theorem SW (x y:Int) (hx:A9 x) (hy:A9 y) (w0:World):AM Tryz.prog 140 #[wv x,wv y] w0 fun v w'=>v = .int .i64 (CX x y)∧AA [] w0 w':=by
 obtain ⟨hx1,hx2⟩:=hx
 obtain ⟨hy1,hy2⟩:=hy
 have hs:=St.nil w0
 refine AQ Tryz.func140 Tryz.ntmps140 (k:=?_)
 repeat' (first|refine Sa ?_|(refine bx hs (k:=?_);intro b w hz hs)|fail)
 refine dr [] hs (k:=?_);intro hX w hs
 refine tks 0 4 ?_
 refine tks 5 4 ?_
 refine dt 4 hX (k:=?_)
 refine AY hs (h:=by exact OE _ _ _) (k:=?_);intro w' ho hs
 refine Jb ?_
 refine dn (k:=?_)
 refine dt 9 hX (k:=?_)
 refine AY hs (h:=by exact OD _ _ _) (k:=?_);intro w' ho hs
 refine Jb ?_
 refine dn (k:=?_)
 refine dt 10 hX (k:=?_)
 repeat' (first|refine Nx.h ?_|(refine bs hs (k:=?_);intro b w hz hs)|fail)
 refine dn (k:=?_)
 refine dt 11 hX (k:=?_)
 refine AY hs (h:=by exact dL _ _ _ _ _ (hs.get At.head)) (k:=?_);intro w' ho hs
 refine Jb ?_
 refine dn (k:=?_)
 refine tk 12 hX (k:=?_)
 refine en (k:=?_)
 refine Jb ?_
 refine AF ?_
 refine ⟨?_,hs.AD rfl⟩
 clear hs
 have:(if CX (x / 18446744073709551616) (y / 18446744073709551616)=0 then CX (x % 18446744073709551616) (y % 18446744073709551616) else CX (x / 18446744073709551616) (y / 18446744073709551616))=CX x y:=by
  unfold CX
  repeat' split
  all_goals omega
 rw [this]
 rfl
theorem QG (x:Int) (hx:A9 x) (w0:World):AM Tryz.prog 180 #[wv x] w0 fun v w'=>v = .int .i64 (CX x 0)∧AA [] w0 w':=by
 have hs:=St.nil w0
 refine AQ Tryz.func180 Tryz.ntmps180 (k:=?_)
 repeat' (first|refine Sa ?_|(refine bx hs (k:=?_);intro b w hz hs)|fail)
 refine AY hs (h:=by exact SW x 0 hx (by decide) _) (k:=?_);intro w' ho hs
 refine Jc ?_
 refine AF ?_
 exact ⟨rfl,hs.AD rfl⟩
def nY (x X:Int):Prop:=0≤X∧(x < 0∧x=-X∨0≤x∧x=X)
theorem Vr (x:Int):∃ X,nY x X:=by
 rcases Int.lt_or_le x 0 with h | h
 ·exact ⟨-x,by omega,.inl om⟩
 ·exact ⟨x,by omega,.inr om⟩
theorem Ot {x X:Int} (hx:A9 x) (h:nY x X) (w0:World):AM Tryz.prog 124 #[wv x] w0 fun v w'=>v = .tuple #[.int .u64 (X / 18446744073709551616),.int .u64 (X % 18446744073709551616)]∧AA [] w0 w':=by
 have:=lZ x hx w0
 unfold o8 at this
 have e:(if x < 0 then -x else x)=X:=by obtain ⟨h1,h2⟩:=h;split <;> omega
 rw [e] at this
 exact this
theorem jO {hi lo:Int} (s:Int) (h0:0≤s) (h1:s < 340282366920938463463374607431768211456) (h2:hi=s / 18446744073709551616) (h3:lo=s % 18446744073709551616) (neg:Bool) (w0:World) :
 AM Tryz.prog 187 #[.int .u64 hi,.int .u64 lo,.bool neg] w0 fun v w'=>v=EU (bif neg then -s else s)∧AA [] w0 w':=by subst h2 h3;exact Zx s h0 h1 neg w0
theorem Xo (s:Int):∃ t b,EU s = .tuple #[wv t,.bool b]∧packed [wv t,.bool b]=EU s:=by
 unfold EU
 split
 ·exact ⟨_,_,rfl,rfl⟩
 ·exact ⟨_,_,rfl,rfl⟩
theorem PA (x n:Int) (hx:A9 x) (hn0:-9223372036854775808≤n) (Le:n < 9223372036854775808) (w0:World):AM Tryz.prog 142 #[wv x,.int .i64 n] w0 fun v w'=>v=EU (x*n)∧AA [] w0 w':=by
 have hx':=hx
 obtain ⟨hx1,hx2⟩:=hx
 have hs:=St.nil w0
 obtain ⟨X,hX⟩:=Vr x
 obtain ⟨N,hN⟩:=Vr n
 have tJ:=hX
 have hN0:=hN
 obtain ⟨vL,hX2⟩:=hX
 obtain ⟨tM,MT⟩:=hN
 have hNN:N % 18446744073709551616=N:=by omega
 have b1:=HD (a:=X / 18446744073709551616) (b:=N) (m:=9223372036854775808) om om om om
 have b2:0≤X % 18446744073709551616*N∧X % 18446744073709551616*N≤18446744073709551615*9223372036854775808:=⟨Int.mul_nonneg om om,Int.mul_le_mul om om om om⟩
 refine AQ Tryz.func142 Tryz.ntmps142 (k:=?_)
 repeat' (first|refine Sa ?_|(refine al hs (k:=?_);intro b w hz hs)|(refine bx hs (k:=?_);intro b w hz hs)|fail)
 refine AY hs (h:=by exact Ot hx' tJ _) (k:=?_);intro w' ho hs
 refine Ja ?_
 refine AY hs (h:=by exact Fp n hn0 Le _) (k:=?_);intro w' ho hs
 skip
 refine AY hs (h:=by exact Ot (by unfold A9;omega) hN0 _) (k:=?_);intro w' ho hs
 rw [hNN]
 refine Ja ?_
 refine AY hs (h:=by exact O4 _ _ om om om om _) (k:=?_);intro w' ho hs
 refine Ja ?_
 refine AY hs (h:=by exact O4 _ _ om om om om _) (k:=?_);intro w' ho hs
 refine Ja ?_
 refine cl (h:=by exact I7 _ _ _ om om om om _) (k:=?_)
 rintro v w' ⟨rfl,rfl⟩
 have key:X*N=X / 18446744073709551616*N*18446744073709551616+X % 18446744073709551616*N:=by
  have:X=X / 18446744073709551616*18446744073709551616+X % 18446744073709551616:=by omega
  generalize X / 18446744073709551616=p at *
  generalize X % 18446744073709551616=q at *
  grind
 have hneg:x*n=(bif (decide (x / 18446744073709551616 < 0) != decide (n < 0)) then -(X*N) else X*N):=by
  rcases hX2 with ⟨h1,h2⟩ | ⟨h1,h2⟩ <;> rcases MT with ⟨h3,h4⟩ | ⟨h3,h4⟩
  ·rw [decide_eq_true (show x / 18446744073709551616 < 0 by omega),decide_eq_true h3,h2,h4];simp [Int.neg_mul,Int.mul_neg]
  ·rw [decide_eq_true (show x / 18446744073709551616 < 0 by omega),decide_eq_false (show ¬ n < 0 by omega),h2,h4];simp [Int.neg_mul,Int.mul_neg]
  ·rw [decide_eq_false (show ¬ x / 18446744073709551616 < 0 by omega),decide_eq_true h3,h2,h4];simp [Int.neg_mul,Int.mul_neg]
  ·rw [decide_eq_false (show ¬ x / 18446744073709551616 < 0 by omega),decide_eq_false (show ¬ n < 0 by omega),h2,h4];simp [Int.neg_mul,Int.mul_neg]
 generalize X / 18446744073709551616*N=p1 at *
 generalize X % 18446744073709551616*N=p2 at *
 repeat' (first|refine Se ?_|(refine AU hs (k:=?_);intro w hs)|((with_reducible apply BM);exact rfl;exact rfl;intro c hc;(fail_if_success have:true=c:=hc);(fail_if_success have:false=c:=hc);cases c)|refine xc_cond rfl (fun hc=>?_) fun hc=>?_|fail)
 all_goals simp only [bne_iff_ne,ne_eq,bne_eq_false_iff_eq] at *
 ·refine AF ?_
  refine ⟨?_,hs.AD rfl⟩
  clear hs
  refine JZ ?_
  rw [hneg]
  unfold A9
  cases (decide (x / 18446744073709551616 < 0) != decide (n < 0)) <;> simp only [cond_true,cond_false] <;> omega
 ·refine AY hs (h:=by exact jO (X*N) om om om om _ _) (k:=?_);intro w' ho hs
  obtain ⟨t,b',e1,e2⟩:=Xo (bif decide (x / 18446744073709551616 < 0) != decide (n < 0) then -(X*N) else X*N)
  rw [e1]
  repeat' (first|refine Sb ?_|(refine AU hs (k:=?_);intro w hs)|fail)
  refine AF ?_
  exact ⟨e2.trans (by rw [hneg]),hs.AD rfl⟩
 ·refine AF ?_
  refine ⟨?_,hs.AD rfl⟩
  clear hs
  refine JZ ?_
  rw [hneg]
  unfold A9
  cases (decide (x / 18446744073709551616 < 0) != decide (n < 0)) <;> simp only [cond_true,cond_false] <;> omega
end Go.Proofs.Q0
namespace Go.Proofs.Q0
structure Kd (u v c d y q r:Int):Prop where
 sum:q*c+r=u
 q0:0≤q
 q1:q≤4294967297
 r0:0≤r
 r1:r < 4294967296
 up:u*4294967296+v < (q+1)*y
structure S2 (u v c d y:Int):Prop where
 y_eq:y=c*4294967296+d
 c0:2147483648≤c
 c1:c < 4294967296
 d0:0≤d
 d1:d < 4294967296
 u0:0≤u
 u1:u < y
 v0:0≤v
 v1:v < 4294967296
def SF (u v y q:Int):Prop:=0≤q∧q*y≤u*4294967296+v∧u*4294967296+v < (q+1)*y
variable {u v c d y q r : Int}
theorem PO (h:S2 u v c d y):Kd u v c d y (u / c) (u - u / c*c):=by
 obtain ⟨hy,c0,c1,d0,d1,u0,u1,v0,v1⟩:=h
 have hm:=Int.mul_ediv_add_emod u c
 have h1:=Int.emod_nonneg u (show c≠0 by omega)
 have h2:=Int.emod_lt_of_pos u (show 0 < c by omega)
 have h3:0≤u / c:=Int.ediv_nonneg u0 om
 have h4:u / c*c=c*(u / c):=Int.mul_comm _ _
 generalize u / c=q at *
 generalize u % c=m at *
 have hq:q≤4294967297:=by
  rcases Int.lt_or_le q 4294967298 with h | h
  ·omega
  ·have:c*4294967298≤c*q:=Int.mul_le_mul_of_nonneg_left h om
   omega
 refine ⟨by omega,h3,hq,by omega,by omega,?_⟩
 have e:(q+1)*y=(c*q+c)*4294967296+(q+1)*d:=by subst hy;grind
 have:0≤(q+1)*d:=Int.mul_nonneg om d0
 omega
theorem YO (h:S2 u v c d y) (k:Kd u v c d y q r) (h2:q*d≤4294967296*r+v):SF u v y q:=by
 obtain ⟨hy,c0,c1,d0,d1,u0,u1,v0,v1⟩:=h
 obtain ⟨s,q0,q1,r0,r1,up⟩:=k
 have e:q*y=q*c*4294967296+q*d:=by subst hy;grind
 exact ⟨q0,by omega,up⟩
theorem YP (h:S2 u v c d y) (k:Kd u v c d y q r) (h2:4294967296≤q∨4294967296*r+v < q*d) :
 1≤q∧(r+c < 4294967296→Kd u v c d y (q - 1) (r+c))∧(4294967296≤r+c→SF u v y (q - 1)):=by
 obtain ⟨hy,c0,c1,d0,d1,u0,u1,v0,v1⟩:=h
 obtain ⟨s,q0,q1,r0,r1,up⟩:=k
 have hq:1≤q:=by
  rcases h2 with h2 | h2
  ·omega
  ·rcases Int.lt_or_le q 1 with h | h
   ·have:q=0:=by omega
    subst this;omega
   ·exact h
 have e:q*y=q*c*4294967296+q*d:=by subst hy;grind
 have hup:u*4294967296+v < q*y:=by
  rcases h2 with h2 | h2
  ·have:4294967296*y≤q*y:=Int.mul_le_mul_of_nonneg_right h2 om
   omega
  ·omega
 have e1:(q - 1)*c+(r+c)=u:=by rw [Int.sub_mul];omega
 refine ⟨hq,fun hr=>⟨e1,by omega,by omega,by omega,hr,by rw [show q - 1+1=q by omega];exact hup⟩,fun hr=>⟨by omega,?_,by rw [show q - 1+1=q by omega];exact hup⟩⟩
 have e2:(q - 1)*y=(q - 1)*c*4294967296+(q - 1)*d:=by subst hy;grind
 have:(q - 1)*d≤4294967296*4294967295:=Int.mul_le_mul om om d0 om
 omega
theorem cX (h:S2 u v c d y) (k:SF u v y q):q=(u*4294967296+v) / y∧q < 4294967296∧u*4294967296+v - q*y=(u*4294967296+v) % y∧0≤u*4294967296+v - q*y∧u*4294967296+v - q*y < y:=by
 obtain ⟨hy,c0,c1,d0,d1,u0,u1,v0,v1⟩:=h
 obtain ⟨q0,k1,k2⟩:=k
 have hy0:0 < y:=by omega
 have e:(q+1)*y=q*y+y:=by rw [Int.add_mul,Int.one_mul]
 have h1:0≤u*4294967296+v - q*y:=by omega
 have h2:u*4294967296+v - q*y < y:=by omega
 have hq:q=(u*4294967296+v) / y:=by
  have:u*4294967296+v=(u*4294967296+v - q*y)+q*y:=by omega
  rw [this,Int.add_mul_ediv_right _ _ om,Int.ediv_eq_zero_of_lt h1 h2];omega
 refine ⟨hq,?_,?_,h1,h2⟩
 ·rcases Int.lt_or_le q 4294967296 with h | h
  ·exact h
  ·have:4294967296*y≤q*y:=Int.mul_le_mul_of_nonneg_right h om
   omega
 ·have:=Int.mul_ediv_add_emod (u*4294967296+v) y
  rw [← hq,Int.mul_comm] at this
  omega
theorem xP {T y P Y Q R:Int} (hP:0 < P) (hy:0 < y) (hY:y*P=Y) (h:T*P=Q*Y+R) (h0:0≤R) (h1:R < Y):Q=T / y∧R / P=T % y:=by
 subst hY
 have h2:R=(T - Q*y)*P:=by grind
 have h3:R / P=T - Q*y:=by rw [h2,Int.mul_ediv_cancel _ om]
 have h4:0≤T - Q*y:=by rw [← h3];exact Int.ediv_nonneg h0 om
 have h5:T - Q*y < y:=by
  rw [h2] at h1
  exact Int.lt_of_mul_lt_mul_right h1 om
 have hq:Q=T / y:=by
  have:T=(T - Q*y)+Q*y:=by omega
  rw [this,Int.add_mul_ediv_right _ _ om,Int.ediv_eq_zero_of_lt h4 h5];omega
 refine ⟨hq,?_⟩
 rw [h3,hq]
 have:=Int.mul_ediv_add_emod T y
 rw [Int.mul_comm] at this
 omega
theorem qV {hi lo y P Q:Int} (hP:0 < P) (hQ:0 < Q) (hPQ:P*Q=18446744073709551616) (h0:0≤hi) (h1:hi < y) (h2:0≤lo) (h3:lo < 18446744073709551616) :
 0≤lo / Q∧lo / Q < P∧hi*P+lo / Q < y*P∧(hi*18446744073709551616+lo)*P=(hi*P+lo / Q)*18446744073709551616+lo*P % 18446744073709551616:=by
 have e1:=Int.mul_ediv_add_emod lo Q
 have e2:=Int.emod_nonneg lo (show Q≠0 by omega)
 have e3:=Int.emod_lt_of_pos lo hQ
 have e4:0≤lo / Q:=Int.ediv_nonneg h2 om
 have e5:lo / Q < P:=by rw [Int.ediv_lt_iff_lt_mul hQ,hPQ];exact h3
 have e6:hi*P+P≤y*P:=by
  have:(hi+1)*P≤y*P:=Int.mul_le_mul_of_nonneg_right om om
  rw [Int.add_mul,Int.one_mul] at this
  exact this
 refine ⟨e4,e5,by omega,?_⟩
 have e7:lo*P=lo / Q*18446744073709551616+lo % Q*P:=by
  generalize lo / Q=B at *
  generalize lo % Q=C at *
  rw [← hPQ,← e1];grind
 have e8:lo % Q*P < 18446744073709551616:=by
  have:=Int.mul_lt_mul_of_pos_right e3 hP
  rw [Int.mul_comm Q P,hPQ] at this
  exact this
 have e9:0≤lo % Q*P:=Int.mul_nonneg e2 om
 have e10:(hi*18446744073709551616+lo)*P=hi*P*18446744073709551616+lo*P:=by grind
 rw [e10,e7]
 generalize lo / Q=B at *
 generalize lo % Q*P=C at *
 generalize hi*P=A at *
 omega
def len8 (k:Nat):Nat:=if k=0 then 0 else Nat.log2 k+1
theorem YT:∀ k < 256,k < 2 ^ len8 k∧(0 < k→2 ^ len8 k≤2*k)∧len8 k≤8:=by decide
def KJ (x L:Int) (m:Nat):Prop:=∃ l:Nat,L=l∧l≤m∧x < 2 ^ l∧(0 < x→(2:Int) ^ l≤2*x)
theorem aAI {x:Int} (h0:0≤x) (h1:x < 256):KJ x ((len8 x.toNat:Nat):Int) 8:=by
 obtain ⟨n,rfl⟩:=Int.eq_ofNat_of_zero_le h0
 obtain ⟨h2,h3,h4⟩:=YT n om
 refine ⟨_,rfl,h4,?_,fun h=>?_⟩
 ·simpa using (by exact_mod_cast h2:((n:Nat):Int) < ((2 ^ len8 n:Nat):Int))
 ·have:=h3 om
  simpa using (by exact_mod_cast this:((2 ^ len8 n:Nat):Int)≤((2*n:Nat):Int))
theorem bl_shift {x L:Int} {m:Nat} (k:Nat) {p:Int} (hp:(2:Int) ^ k=p) (h:KJ (x / p) L m) (hx:0 < x / p):KJ x (L+k) (m+k):=by
 obtain ⟨l,rfl,h1,h2,h3⟩:=h
 have iU:0 < p:=by rw [← hp];exact Int.pow_pos (by decide)
 have h3:=h3 hx
 have hx0:0 < x:=by
  rcases Int.lt_or_le 0 x with h | h
  ·exact h
  ·have:=Int.ediv_le_ediv iU h
   simp at this
   omega
 refine ⟨l+k,by simp,by omega,?_,fun _=>?_⟩
 ·rw [Int.pow_add,hp]
  exact (Int.ediv_lt_iff_lt_mul iU).1 h2
 ·rw [Int.pow_add,hp]
  have h5:=Int.mul_ediv_add_emod x p
  have h6:=Int.emod_nonneg x (show p≠0 by omega)
  have h7:(2:Int) ^ l*p≤2*(x / p)*p:=Int.mul_le_mul_of_nonneg_right h3 om
  have h8:2*(x / p)*p=2*(p*(x / p)):=by grind
  omega
theorem KJ.mono {x L:Int} {m m':Nat} (h:KJ x L m) (hm:m≤m'):KJ x L m':=by
 obtain ⟨l,h0,h1,h2⟩:=h
 exact ⟨l,h0,by omega,h2⟩
end Go.Proofs.Q0
namespace Go.Proofs.Q0
open Go Go.RowKit
attribute [local irreducible] XS XC XA AX AO A7 A0 AZ A8 Aa AV SE
theorem wrap_u8 (n:Int):IntKind.u8.wrap n=n % 256:=by simp [IntKind.wrap,IntKind.signed,IntKind.bits]
theorem Fu {x X c:Int} (k:Nat) (p:Int) (hk:k≤56) (hp:(2:Int) ^ k=p) (hc:c=k) (hX:X=x / p) (h:k=0∨0 < X) (h0:0≤X) (h1:X < 256) :
 ∃ L,packed [Value.int .i64 (IntKind.i64.wrap (c+IntKind.i64.wrap ((len8 (IntKind.u8.wrap X).toNat:Nat):Int)))] = .int .i64 L∧KJ x L 64:=by
 have e1:IntKind.u8.wrap X=X:=by rw [wrap_u8];omega
 have hb:=aAI h0 h1
 have hl:len8 X.toNat≤8:=(YT X.toNat om).2.2
 refine ⟨len8 X.toNat+k,?_,?_⟩
 ·rw [e1]
  simp only [wrap_i64,packed]
  congr 1
  omega
 ·rcases h with h | h
  ·subst h
   have:X=x:=by rw [hX,← hp];simp
   subst this
   simpa using hb.mono (show 8≤64 by decide)
  ·subst hX
   exact (bl_shift k hp hb h).mono om
theorem iM (x:Int) (hx0:0≤x) (hx1:x < 18446744073709551616) (w0:World):AM Tryz.prog 166 #[.int .u64 x] w0 fun v w'=>(∃ L,v = .int .i64 L∧KJ x L 64)∧AA [] w0 w':=by
 have hs:=St.nil w0
 refine AQ Tryz.func166 Tryz.ntmps166 (k:=?_)
 repeat' (first|refine Sa ?_|refine Au rfl (fun hc=>?_) fun hc=>?_|fail)
 all_goals (have hs:=hs;(with_reducible apply xs_val);exact rfl;(with_reducible apply lC AI 256 len8);exact rfl;exact rfl;exact rfl;kernel_rfl;(rw [wrap_u8];omega);(rw [wrap_u8];omega))
 all_goals (refine Jc ?_)
 all_goals (refine AF ?_)
 all_goals refine ⟨?_,hs.AD rfl⟩
 all_goals clear hs
 all_goals try simp only [decide_eq_true_eq,decide_eq_false_iff_not] at *
 all_goals first | exact Fu 56 72057594037927936 (by decide) (by decide) (by rfl) om om om om | exact Fu 48 281474976710656 (by decide) (by decide) (by rfl) om om om om | exact Fu 40 1099511627776 (by decide) (by decide) (by rfl) om om om om | exact Fu 32 4294967296 (by decide) (by decide) (by rfl) om om om om | exact Fu 24 16777216 (by decide) (by decide) (by rfl) om om om om | exact Fu 16 65536 (by decide) (by decide) (by rfl) om om om om | exact Fu 8 256 (by decide) (by decide) (by rfl) om om om om | exact Fu 0 1 (by decide) (by decide) (by rfl) om om om om
theorem kD (x:Int) (hx0:0 < x) (hx1:x < 18446744073709551616) (w0:World):AM Tryz.prog 167 #[.int .u64 x] w0 fun v w'=>(∃ s:Nat,v = .int .i64 (s:Nat)∧s≤63∧x*2 ^ s < 18446744073709551616∧9223372036854775808≤x*2 ^ s)∧AA [] w0 w':=by
 have hs:=St.nil w0
 refine AQ Tryz.func167 Tryz.ntmps167 (k:=?_)
 refine Ja ?_
 refine cl (h:=by exact iM x om hx1 _) (k:=?_)
 rintro v w' ⟨⟨L,rfl,hL⟩,ho⟩;replace hs:=hs.AK ho
 refine Jc ?_
 refine AF ?_
 refine ⟨?_,hs.AD rfl⟩
 obtain ⟨l,rfl,h1,h2,h3⟩:=hL
 have h3:=h3 hx0
 have hl:1≤l:=by
  rcases Nat.eq_zero_or_pos l with h | h
  ·subst h;simp at h2;omega
  ·exact h
 have hp:(2:Int) ^ l*2 ^ (64 - l)=18446744073709551616:=by
  rw [← Int.pow_add,show l+(64 - l)=64 by omega];rfl
 refine ⟨64 - l,?_,by omega,?_,?_⟩
 ·simp only [packed,wrap_i64]
  congr 1
  omega
 ·have:=Int.mul_lt_mul_of_pos_right h2 (show (0:Int) < 2 ^ (64 - l) from Int.pow_pos (by decide))
  omega
 ·have:(2:Int) ^ l*2 ^ (64 - l)≤2*x*2 ^ (64 - l):=Int.mul_le_mul_of_nonneg_right h3 (Int.le_of_lt (Int.pow_pos (by decide)))
  rw [hp,Int.mul_assoc] at this
  omega
theorem YU {q r v d:Int} (e1:IntKind.u64.wrap (4294967296*r)=4294967296*r) (e2:IntKind.u64.wrap (4294967296*r+v)=4294967296*r+v) (e4:q < 4294967296→IntKind.u64.wrap (q*d)=q*d)
 (h1:decide (4294967296≤q)=false) (h2:IntKind.u64.wrap (IntKind.u64.wrap (4294967296*r)+v) < IntKind.u64.wrap (q*d)):4294967296≤q∨4294967296*r+v < q*d:=by
 have:=of_decide_eq_false h1
 rw [e1,e2,e4 om] at h2
 exact .inr h2
theorem kd_ncond {q r v d:Int} (e1:IntKind.u64.wrap (4294967296*r)=4294967296*r) (e2:IntKind.u64.wrap (4294967296*r+v)=4294967296*r+v) (e4:q < 4294967296→IntKind.u64.wrap (q*d)=q*d)
 (h1:decide (4294967296≤q)=false) (h2:¬ IntKind.u64.wrap (IntKind.u64.wrap (4294967296*r)+v) < IntKind.u64.wrap (q*d)):q*d≤4294967296*r+v:=by
 have:=of_decide_eq_false h1
 rw [e1,e2,e4 om] at h2
 omega
theorem OR (hi lo y:Int) (h0:0≤hi) (h1:hi < y) (h2:y < 18446744073709551616) (h3:0≤lo) (h4:lo < 18446744073709551616) (w0:World) :
 AM Tryz.prog 125 #[.int .u64 hi,.int .u64 lo,.int .u64 y] w0 fun v w'=>v = .tuple #[.int .u64 ((hi*18446744073709551616+lo) / y),.int .u64 ((hi*18446744073709551616+lo) % y)]∧AA [] w0 w':=by
 have hs:=St.nil w0
 refine AQ Tryz.func125 Tryz.ntmps125 (k:=?_)
 repeat' (first|refine Sa ?_|refine Au rfl (fun hc=>?_) fun hc=>?_|fail)
 ·omega
 ·omega
 ·refine dr [] hs (k:=?_);intro hX w hs
  refine tks 0 8 ?_
  refine en (k:=?_)
  refine Jb ?_
  refine AF ?_
  refine ⟨?_,hs.AD rfl⟩
  have:hi=0:=by omega
  subst this
  refine Q7 ?_ ?_ <;> simp
 refine cl (h:=by exact kD y om h2 _) (k:=?_)
 rintro v w' ⟨⟨sh,rfl,hs1,hs2,hs3⟩,ho⟩;replace hs:=hs.AK ho
 refine Ja ?_
 rw [wrap_small (show (0:Int)≤(sh:Nat) by omega) om]
 have hP:(0:Int) < 2 ^ sh:=Int.pow_pos (by decide)
 have hQ:(0:Int) < 2 ^ (64 - sh):=Int.pow_pos (by decide)
 have hPQ:(2:Int) ^ sh*2 ^ (64 - sh)=18446744073709551616:=by rw [← Int.pow_add,show sh+(64 - sh)=64 by omega];rfl
 obtain ⟨g1,g2,g3,g4⟩:=qV hP hQ hPQ h0 h1 h3 h4
 have hhi:0≤hi*2 ^ sh:=Int.mul_nonneg h0 om
 have hA:hi*2 ^ sh < 18446744073709551616:=by omega
 (with_reducible apply Sw);exact rfl;(with_reducible apply WD sh);exact rfl;exact rfl;exact rfl;exact (by show sh≤64;omega);exact congrArg (Value.int .u64) (wrap_small om om)
 generalize hY:y*2 ^ sh=Y at *
 refine Ja ?_
 (with_reducible apply Sw);exact rfl;(with_reducible apply WD sh);exact rfl;exact rfl;exact rfl;exact (by show sh≤64;omega);exact congrArg (Value.int .u64) (wrap_small hhi hA)
 refine Jf ?_
 (with_reducible apply xs_val);exact rfl;(with_reducible apply dM (64 - sh));exact rfl;exact rfl;exact (by rw [wrap_small om om];omega);exact (by show 64 - sh≤64;omega)
 (with_reducible apply xs_val);exact rfl;(with_reducible apply zK sh hi);exact rfl;exact rfl;exact rfl;exact h0;exact g1;exact g2;omega
 refine Ja ?_
 (with_reducible apply Sw);exact rfl;(with_reducible apply WD sh);exact rfl;exact rfl;exact rfl;exact (by show sh≤64;omega);exact congrArg (Value.int .u64) (wrap_u64 _)
 have hL:0≤lo*2 ^ sh % 18446744073709551616∧lo*2 ^ sh % 18446744073709551616 < 18446744073709551616:=by omega
 have hu0:0≤hi*2 ^ sh+lo / 2 ^ (64 - sh):=by omega
 generalize hi*2 ^ sh+lo / 2 ^ (64 - sh)=u at *
 generalize lo*2 ^ sh % 18446744073709551616=L at *
 refine Ja ?_
 have hK:S2 u (L / 4294967296) (Y / 4294967296) (Y % 4294967296) Y:=⟨by omega,by omega,by omega,by omega,by omega,hu0,g3,by omega,by omega⟩
 have kk:=PO hK
 have e1:IntKind.u64.wrap (u / (Y / 4294967296)*(Y / 4294967296))=u / (Y / 4294967296)*(Y / 4294967296):=by
  have:=Int.mul_nonneg kk.q0 (show 0≤Y / 4294967296 by omega)
  have:=kk.sum;have:=kk.r0
  exact wrap_small om om
 have e2:IntKind.u64.wrap (u - u / (Y / 4294967296)*(Y / 4294967296))=u - u / (Y / 4294967296)*(Y / 4294967296):=wrap_small kk.r0 (by have:=kk.r1;omega)
 rw [e1,e2]
 clear e1 e2 kk
 generalize M0:Y / 4294967296=c at *
 generalize hd':Y % 4294967296=d at *
 generalize hv1:L / 4294967296=v1 at *
 generalize hv0:L % 4294967296=v0 at *
 refine BN (fun (z:Int)=>[(2,.int .u64 Y),(8,.int .u64 ((sh:Nat):Int)),(9,.int .u64 c),(10,.int .u64 d),(11,.int .u64 u),(13,.int .u64 v1),(14,.int .u64 v0),(15,.int .u64 z)]) (fun z w=>SF u v1 Y z∧St w0 D0 [] w) ?_ ?_
 ·refine BD (fun (s:Int × Int)=>[(2,.int .u64 Y),(8,.int .u64 ((sh:Nat):Int)),(9,.int .u64 c),(10,.int .u64 d),(11,.int .u64 u),(13,.int .u64 v1),(14,.int .u64 v0),(15,.int .u64 s.1),(16,.int .u64 s.2)]) (fun s w=>Kd u v1 c d Y s.1 s.2∧St w0 D0 [] w) (fun s=>s.1.toNat) (u / c,u - u / c*c) Ab ⟨PO hK,hs⟩ fun s env w hI=>?_
  obtain ⟨hk,hs⟩:=hI
  generalize hsq:s.1=q at *
  generalize hsr:s.2=r at *
  have hk':=hk
  obtain ⟨k1,k2,k3,k4,k5,k6⟩:=hk'
  have e1:IntKind.u64.wrap (4294967296*r)=4294967296*r:=wrap_small om om
  have e2:IntKind.u64.wrap (4294967296*r+v1)=4294967296*r+v1:=wrap_small om om
  have e3:IntKind.u64.wrap (r+c)=r+c:=wrap_small om om
  have e4:q < 4294967296→IntKind.u64.wrap (q*d)=q*d:=fun hq=>by
   have:=HD (a:=q) (b:=d) (m:=4294967295) k2 om hK.d0 (by have:=hK.d1;omega)
   exact wrap_small om om
  repeat' (first|refine vs (k:=?_)|refine ps (k:=?_)|refine Al ?_|refine Nx.h ?_|refine oY ?_|refine Ew ?_|((with_reducible apply BM);exact rfl;exact rfl;intro c hc;(fail_if_success have:true=c:=hc);(fail_if_success have:false=c:=hc);cases c)|refine Au rfl (fun hc=>?_) fun hc=>?_|fail)
  all_goals first
   | exact Ar q Ab ⟨YO hK hk (kd_ncond e1 e2 e4 (by assumption) (by assumption)),hs⟩
   | skip
  all_goals have hst:4294967296≤q∨4294967296*r+v1 < q*d:=by first | exact .inl (of_decide_eq_true (by assumption)) | exact YU e1 e2 e4 (by assumption) (by assumption)
  all_goals obtain ⟨h1,h2,h3⟩:=YP hK hk hst
  all_goals have e5:IntKind.u64.wrap (q - 1)=q - 1:=wrap_small om om
  all_goals simp only [e3] at hc
  all_goals first
   | exact Ar (q - 1) (by (repeat (first | exact Ac | (apply A5;first | exact rfl | exact congrArg (Value.int .u64) e5 | exact congrArg (Value.int .u64) e3)))) ⟨h3 om,hs⟩
   | exact A2 (q - 1,r+c) (by simp only [hsq];omega) (by (repeat (first | exact Ac | (apply A5;first | exact rfl | exact congrArg (Value.int .u64) e5 | exact congrArg (Value.int .u64) e3)))) ⟨h2 om,hs⟩
 rintro q env w ⟨hfq,hs⟩
 obtain ⟨f1,f2,f3,f4,f5⟩:=cX hK hfq
 refine Ja ?_
 have hq0:=hfq.1
 have E1:IntKind.u64.wrap (IntKind.u64.wrap (IntKind.u64.wrap (u*4294967296)+v1) - IntKind.u64.wrap (q*Y))=u*4294967296+v1 - q*Y:=by
  clear f1 f3
  simp only [wrap_u64]
  generalize q*Y=z at *
  omega
 rw [E1]
 clear E1
 generalize Gu:u*4294967296+v1 - q*Y=u2 at *
 have hd:=hK.d0;have pM:=hK.d1;have hcc:=hK.c0;have hcd:=hK.c1;have hyy:=hK.y_eq
 have VC:S2 u2 v0 c d Y:=⟨hyy,hcc,hcd,hd,pM,f4,f5,by omega,by omega⟩
 have kk:=PO VC
 have e1:IntKind.u64.wrap (u2 / c*c)=u2 / c*c:=by
  have:=Int.mul_nonneg kk.q0 (show 0≤c by omega)
  have:=kk.sum;have:=kk.r0
  exact wrap_small om om
 have e2:IntKind.u64.wrap (u2 - u2 / c*c)=u2 - u2 / c*c:=wrap_small kk.r0 (by have:=kk.r1;omega)
 rw [e1,e2]
 clear e1 e2 kk
 refine BN (fun (z:Int)=>[(2,.int .u64 Y),(8,.int .u64 ((sh:Nat):Int)),(9,.int .u64 c),(10,.int .u64 d),(14,.int .u64 v0),(15,.int .u64 q),(17,.int .u64 u2),(18,.int .u64 z)]) (fun z w=>SF u2 v0 Y z∧St w0 D0 [] w) ?_ ?_
 ·refine BD (fun (s:Int × Int)=>[(2,.int .u64 Y),(8,.int .u64 ((sh:Nat):Int)),(9,.int .u64 c),(10,.int .u64 d),(14,.int .u64 v0),(15,.int .u64 q),(17,.int .u64 u2),(18,.int .u64 s.1),(16,.int .u64 s.2)]) (fun s w=>Kd u2 v0 c d Y s.1 s.2∧St w0 D0 [] w) (fun s=>s.1.toNat) (u2 / c,u2 - u2 / c*c) Ab ⟨PO VC,hs⟩ fun s env w hI=>?_
  obtain ⟨hk,hs⟩:=hI
  generalize hsq:s.1=q at *
  generalize hsr:s.2=r at *
  have hk':=hk
  obtain ⟨k1,k2,k3,k4,k5,k6⟩:=hk'
  have e1:IntKind.u64.wrap (4294967296*r)=4294967296*r:=wrap_small om om
  have e2:IntKind.u64.wrap (4294967296*r+v0)=4294967296*r+v0:=wrap_small om om
  have e3:IntKind.u64.wrap (r+c)=r+c:=wrap_small om om
  have e4:q < 4294967296→IntKind.u64.wrap (q*d)=q*d:=fun hq=>by
   have:=HD (a:=q) (b:=d) (m:=4294967295) k2 om VC.d0 (by have:=VC.d1;omega)
   exact wrap_small om om
  repeat' (first|refine vs (k:=?_)|refine ps (k:=?_)|refine Al ?_|refine Nx.h ?_|refine oY ?_|refine Ew ?_|((with_reducible apply BM);exact rfl;exact rfl;intro c hc;(fail_if_success have:true=c:=hc);(fail_if_success have:false=c:=hc);cases c)|refine Au rfl (fun hc=>?_) fun hc=>?_|fail)
  all_goals first
   | exact Ar q Ab ⟨YO VC hk (kd_ncond e1 e2 e4 (by assumption) (by assumption)),hs⟩
   | skip
  all_goals have hst:4294967296≤q∨4294967296*r+v0 < q*d:=by first | exact .inl (of_decide_eq_true (by assumption)) | exact YU e1 e2 e4 (by assumption) (by assumption)
  all_goals obtain ⟨h1,h2,h3⟩:=YP VC hk hst
  all_goals have e5:IntKind.u64.wrap (q - 1)=q - 1:=wrap_small om om
  all_goals simp only [e3] at hc
  all_goals first
   | exact Ar (q - 1) (by (repeat (first | exact Ac | (apply A5;first | exact rfl | exact congrArg (Value.int .u64) e5 | exact congrArg (Value.int .u64) e3)))) ⟨h3 om,hs⟩
   | exact A2 (q - 1,r+c) (by simp only [hsq];omega) (by (repeat (first | exact Ac | (apply A5;first | exact rfl | exact congrArg (Value.int .u64) e5 | exact congrArg (Value.int .u64) e3)))) ⟨h2 om,hs⟩
 rintro p env w ⟨hfp,hs⟩
 obtain ⟨i1,i2,i3,i4,i5⟩:=cX VC hfp
 refine Ja ?_
 (with_reducible apply xs_val);exact rfl;(with_reducible apply dM sh);exact rfl;exact rfl;exact rfl;exact (by show sh≤64;omega)
 refine Jc ?_
 refine AF ?_
 refine ⟨?_,hs.AD rfl⟩
 clear hs
 have iU:=hfp.1
 have E1:IntKind.u64.wrap (IntKind.u64.wrap (IntKind.u64.wrap (u2*4294967296)+v0) - IntKind.u64.wrap (p*Y))=u2*4294967296+v0 - p*Y:=by
  clear i1 i3 f1 f3 Gu
  simp only [wrap_u64]
  generalize p*Y=z at *
  omega
 rw [E1]
 have E2:IntKind.u64.wrap (IntKind.u64.wrap (q*4294967296)+p)=q*4294967296+p:=by
  rw [wrap_small (n:=q*4294967296) om om]
  exact wrap_small om om
 rw [E2]
 obtain ⟨j1,j2⟩:=xP (T:=hi*18446744073709551616+lo) (Q:=q*4294967296+p) hP (show 0 < y by omega) hY (by
  have:(q*4294967296+p)*Y=q*Y*4294967296+p*Y:=by grind
  rw [g4,this]
  omega) i4 i5
 rw [j2]
 exact Q7 j1 rfl
theorem nM (h l y:Int) (hy:0 < y) (hl0:0≤l) (LR:l < 18446744073709551616):(h*18446744073709551616+l) / y=h / y*18446744073709551616+(h % y*18446744073709551616+l) / y ∧
 (h*18446744073709551616+l) % y=(h % y*18446744073709551616+l) % y∧0≤(h % y*18446744073709551616+l) / y∧(h % y*18446744073709551616+l) / y < 18446744073709551616:=by
 have e1:=Int.mul_ediv_add_emod h y
 have e2:=Int.emod_nonneg h (show y≠0 by omega)
 have e3:=Int.emod_lt_of_pos h hy
 have e:h*18446744073709551616+l=(h % y*18446744073709551616+l)+h / y*18446744073709551616*y:=by
  generalize h / y=q at *
  generalize h % y=r at *
  subst e1
  grind
 refine ⟨?_,?_,Int.ediv_nonneg om om,?_⟩
 ·rw [e,Int.add_mul_ediv_right _ _ om];omega
 ·rw [e,Int.add_mul_emod_self_right]
 ·rw [Int.ediv_lt_iff_lt_mul hy]
  have:(h % y+1)*18446744073709551616≤y*18446744073709551616:=by omega
  rw [Int.mul_comm 18446744073709551616 y]
  omega
def TW (x y:Int):Value:=if y=0 then .tuple #[wv 0,.int .u64 0,.bool false] else .tuple #[wv (x / y),.int .u64 (x % y),.bool true]
theorem qX {x:Int}:packed [Value.agg #[.int .i64 0,.int .u64 0],.int .u64 0,.bool false]=TW x 0:=rfl
theorem TO {x y r:Int} {v:Value} (hy:y≠0) (hv:v=wv (x / y)) (hr:r=x % y):packed [v,.int .u64 r,.bool true]=TW x y:=by
 unfold TW;rw [if_neg hy,hv,hr];rfl
theorem neg_div {X y q r:Int} (hy:0 < y) (hq:X / y=q) (hr:X % y=r):(0 < r→-X / y=-(q+1)∧-X % y=y - r)∧(¬ 0 < r→-X / y=-q∧-X % y=0):=by
 have e1:=Int.mul_ediv_add_emod X y
 have e2:=Int.emod_nonneg X (show y≠0 by omega)
 have e3:=Int.emod_lt_of_pos X hy
 rw [hq,hr] at e1
 rw [hr] at e2 e3
 refine ⟨fun h=>?_,fun h=>?_⟩
 ·have e:-X=(y - r)+-(q+1)*y:=by subst e1;grind
  constructor
  ·rw [e,Int.add_mul_ediv_right _ _ om,Int.ediv_eq_zero_of_lt om om];omega
  ·rw [e,Int.add_mul_emod_self_right,Int.emod_eq_of_lt om om]
 ·have e:-X=0+-q*y:=by subst e1;grind
  constructor
  ·rw [e,Int.add_mul_ediv_right _ _ om];simp
  ·rw [e,Int.add_mul_emod_self_right];simp
theorem YW (x y:Int) (hx:A9 x) (hy0:0≤y) (hy1:y < 18446744073709551616) (w0:World):AM Tryz.prog 86 #[wv x,.int .u64 y] w0 fun v w'=>v=TW x y∧AA [] w0 w':=by
 have hx':=hx
 obtain ⟨hx1,hx2⟩:=hx
 have hs:=St.nil w0
 obtain ⟨X,hX⟩:=Vr x
 have tJ:=hX
 obtain ⟨vL,hX2⟩:=hX
 refine AQ Tryz.func86 Tryz.ntmps86 (k:=?_)
 repeat' (first|refine Sa ?_|(refine AU hs (k:=?_);intro w hs)|(refine al hs (k:=?_);intro b w hz hs)|(refine bx hs (k:=?_);intro b w hz hs)|refine Au rfl (fun hc=>?_) fun hc=>?_|fail)
 ·refine AF ?_
  have:y=0:=by omega
  subst this
  exact ⟨qX,hs.AD rfl⟩
 refine AY hs (h:=by exact Ot hx' tJ _) (k:=?_);intro w' ho hs
 refine Jc ?_
 refine dr [] hs (k:=?_);intro hX w hs
 refine tks 0 8 ?_
 refine en (k:=?_)
 refine Ja ?_
 refine AY hs (h:=by exact OR _ _ _ (Int.emod_nonneg _ om) (Int.emod_lt_of_pos _ om) om om om _) (k:=?_);intro w' ho hs
 obtain ⟨d1,d2,d3,d4⟩:=nM (X / 18446744073709551616) (X % 18446744073709551616) y om om om
 rw [show X / 18446744073709551616*18446744073709551616+X % 18446744073709551616=X by omega] at d1 d2
 have d5:=Int.emod_nonneg X (show y≠0 by omega)
 have d6:=Int.emod_lt_of_pos X (show 0 < y by omega)
 have d7:0≤X / 18446744073709551616 / y:=Int.ediv_nonneg om om
 have d8:X / y≤X:=Int.ediv_le_self y vL
 have d9:X / y+X % y≤X:=by
  have e1:=Int.mul_ediv_add_emod X y
  have e2:1*(X / y)≤y*(X / y):=Int.mul_le_mul_of_nonneg_right om (Int.ediv_nonneg vL om)
  omega
 rw [d2] at d5 d6 d9
 generalize X / 18446744073709551616 / y=q1 at *
 generalize (X / 18446744073709551616 % y*18446744073709551616+X % 18446744073709551616) / y=q0 at *
 generalize (X / 18446744073709551616 % y*18446744073709551616+X % 18446744073709551616) % y=r at *
 repeat' (first|refine Sa ?_|(refine AU hs (k:=?_);intro w hs)|refine Au rfl (fun hc=>?_) fun hc=>?_|fail)
 ·refine AF ?_
  refine ⟨?_,hs.AD rfl⟩
  clear hs
  have:x=X:=by omega
  subst this
  refine TO om (agg_ok ?_ ?_) d2.symm
  ·simp only [wrap_i64];omega
  ·omega
 ·refine cl (h:=by exact I7 _ _ _ om om om om _) (k:=?_)
  rintro v w' ⟨rfl,rfl⟩
  refine Ja ?_
  refine AY hs (h:=by exact TE (agg_sgn (s:=X / y+1) om om (by simp only [wrap_u64];omega) om) (sgn_in om om) _) (k:=?_);intro w' ho hs
  repeat' (first|refine Sb ?_|(refine AU hs (k:=?_);intro w hs)|fail)
  refine AF ?_
  refine ⟨?_,hs.AD rfl⟩
  clear hs
  have:x=-X:=by omega
  obtain ⟨n1,n2⟩:=(neg_div (show 0 < y by omega) rfl d2).1 om
  subst this
  refine TO om ?_ ?_
  ·rw [n1]
   refine congrArg wv ?_
   unfold Oe sgn
   repeat' split
   all_goals omega
  ·rw [n2,wrap_u64];omega
 ·refine AY hs (h:=by exact TE (agg_sgn (s:=X / y) om om om om) (sgn_in om om) _) (k:=?_);intro w' ho hs
  repeat' (first|refine Sb ?_|(refine AU hs (k:=?_);intro w hs)|fail)
  refine AF ?_
  refine ⟨?_,hs.AD rfl⟩
  clear hs
  have:x=-X:=by omega
  obtain ⟨n1,n2⟩:=(neg_div (show 0 < y by omega) rfl d2).2 om
  subst this
  refine TO om ?_ ?_
  ·rw [n1]
   refine congrArg wv ?_
   unfold Oe sgn
   repeat' split
   all_goals omega
  ·rw [n2];omega
def In64 (x:Int):Prop:=-9223372036854775808≤x∧x < 9223372036854775808
instance (x:Int):Decidable (In64 x):=by unfold In64;infer_instance
def LA (x:Int):Value:=if In64 x then .tuple #[.int .i64 x,.bool true] else .tuple #[.int .i64 0,.bool false]
theorem Nt (x:Int) (hx:A9 x) (w0:World):AM Tryz.prog 87 #[wv x] w0 fun v w'=>v=LA x∧AA [] w0 w':=by
 have hx':=hx
 obtain ⟨hx1,hx2⟩:=hx
 have hs:=St.nil w0
 refine AQ Tryz.func87 Tryz.ntmps87 (k:=?_)
 repeat' (first|refine Sa ?_|(refine bx hs (k:=?_);intro b w hz hs)|fail)
 refine dr [] hs (k:=?_);intro hX w hs
 refine tk 0 hX (k:=?_)
 refine tk 2 hX (k:=?_)
 refine dt 1 hX (k:=?_)
 refine AY hs (h:=by exact Fp _ (by rw [wrap_i64];omega) (by rw [wrap_i64];omega) _) (k:=?_);intro w' ho hs;refine Jb ?_
 refine dn (k:=?_)
 refine tk 3 hX (k:=?_)
 refine en (k:=?_)
 repeat' (first|refine Sa ?_|refine xc_cond rfl (fun hc=>?_) fun hc=>?_|fail)
 ·refine AF ?_
  refine ⟨?_,hs.AD rfl⟩
  clear hs
  have h1:¬ In64 x:=by
   rintro ⟨h1,h2⟩
   simp only [wrap_i64,By,Bool.not_eq_true',Bool.and_eq_false_iff,beq_eq_false_iff_ne,ne_eq] at hc
   omega
  unfold LA packed
  rw [if_neg h1]
 ·refine AF ?_
  refine ⟨?_,hs.AD rfl⟩
  clear hs
  have h1:IntKind.i64.wrap (x % 18446744073709551616)=x∧In64 x:=by
   simp only [wrap_i64,By,Bool.not_eq_false',Bool.and_eq_true,beq_iff_eq,Bool.not_not,not_true,Bool.not_eq_true',Bool.not_eq_true] at hc ⊢
   unfold In64
   constructor <;> omega
  unfold LA packed
  rw [if_pos h1.2,h1.1]
structure Pt where
 t:Int
 r:Int
 w:Int
deriving DecidableEq
abbrev Pt.cells (p:Pt):List Value:=[.int .u64 p.t,.int .u32 p.r,.int .u32 p.w]
def pv (p:Pt):Value := .agg #[.int .u64 p.t,.int .u32 p.r,.int .u32 p.w]
def BV (x:Int):Prop:=0≤x∧x < 18446744073709551616
def F7 (x:Int):Prop:=0≤x∧x < 4294967296
instance (x:Int):Decidable (BV x):=by unfold BV;infer_instance
instance (x:Int):Decidable (F7 x):=by unfold F7;infer_instance
def Pt.In (p:Pt):Prop:=BV p.t∧F7 p.r∧F7 p.w
instance (p:Pt):Decidable p.In:=by unfold Pt.In;infer_instance
def sn (t u:Int):Int:=(t - u+9223372036854775808) % 18446744073709551616 - 9223372036854775808
theorem sn_rng (t u:Int):-9223372036854775808≤sn t u∧sn t u < 9223372036854775808:=by unfold sn;omega
theorem qG (t u:Int):In64 (sn t u):=sn_rng t u
def lat (t d:Int):Int:=(t+d) % 18446744073709551616
theorem VA (t d:Int):BV (lat t d):=by unfold lat BV;omega
theorem Mt {k:IntKind} {a b:Int} (h:a=b):packed [Value.int k a] = .int k b:=by rw [h];rfl
theorem IU (t u:Int) (w0:World):AM Tryz.prog 189 #[.int .u64 t,.int .u64 u] w0 fun v w'=>v = .int .i64 (sn t u)∧AA [] w0 w':=by
 have hs:=St.nil w0
 refine AQ Tryz.func189 Tryz.ntmps189 (k:=?_)
 refine Ja ?_
 refine AF ?_
 refine ⟨Mt ?_,hs.AD rfl⟩
 simp only [wrap_u64,wrap_i64,sn];omega
theorem VT (t d:Int) (w0:World):AM Tryz.prog 88 #[.int .u64 t,.int .i64 d] w0 fun v w'=>v = .int .u64 (lat t d)∧AA [] w0 w':=by
 have hs:=St.nil w0
 refine AQ Tryz.func88 Tryz.ntmps88 (k:=?_)
 refine Ja ?_
 refine AF ?_
 refine ⟨Mt ?_,hs.AD rfl⟩
 simp only [wrap_u64,wrap_i64,lat];omega
def Ek (w:Int):Bool:=decide (1≤w) && decide (w≤1048576)
theorem Rh (w:Int) (w0:World):AM Tryz.prog 185 #[.int .u32 w] w0 fun v w'=>v = .bool (Ek w)∧AA [] w0 w':=by
 have hs:=St.nil w0
 refine AQ Tryz.func185 Tryz.ntmps185 (k:=?_)
 repeat' (first|refine Sf ?_|((with_reducible apply BM);exact rfl;exact rfl;intro c hc;(fail_if_success have:true=c:=hc);(fail_if_success have:false=c:=hc);cases c)|fail)
 all_goals (refine AF ?_)
 all_goals refine ⟨?_,hs.AD rfl⟩
 ·unfold Ek;have:=of_decide_eq_false hc;simp only [packed];congr 1;simp;omega
 ·unfold Ek;have:=of_decide_eq_true hc;simp only [packed];congr 1;simp;omega
def Pt.right (p:Pt):Bool:=Ek p.w && decide (p.r < p.w)
theorem FI (p:Pt) (w0:World):AM Tryz.prog 141 #[pv p] w0 fun v w'=>v = .bool p.right∧AA [] w0 w':=by
 have hs:=St.nil w0
 refine AQ Tryz.func141 Tryz.ntmps141 (k:=?_)
 repeat' (first|refine Sa ?_|(refine bx hs (k:=?_);intro b w hz hs)|fail)
 refine AY hs (h:=by exact Rh _ _) (k:=?_);intro w' ho hs;repeat' (first|refine vs (k:=?_)|refine ps (k:=?_)|refine Nx.h ?_|((with_reducible apply BM);exact rfl;exact rfl;intro c hc;(fail_if_success have:true=c:=hc);(fail_if_success have:false=c:=hc);cases c)|fail)
 all_goals (refine AF ?_)
 all_goals refine ⟨?_,hs.AD rfl⟩
 ·unfold Pt.right;rw [hc];rfl
 ·unfold Pt.right;rw [hc];rfl
theorem mul_rng {w s W S:Int} (h0:0≤w) (h1:w≤W) (h2:-S≤s) (h3:s≤S):-(W*S)≤w*s∧w*s≤W*S:=by
 have hS:0≤S:=by omega
 have a:w*S≤W*S:=Int.mul_le_mul_of_nonneg_right h1 hS
 have b:w*s≤w*S:=Int.mul_le_mul_of_nonneg_left h3 h0
 have c:w*(-S)≤w*s:=Int.mul_le_mul_of_nonneg_left h2 h0
 rw [Int.mul_neg] at c
 omega
theorem uN {x:Int} (h:BV x):IntKind.u64.wrap x=x:=by rw [wrap_u64];unfold BV at h;omega
theorem LJ {x:Int} (h:F7 x):IntKind.u64.wrap x=x:=by rw [wrap_u64];unfold F7 at h;omega
theorem wrap_u32 (n:Int):IntKind.u32.wrap n=n % 4294967296:=by simp [IntKind.wrap,IntKind.signed,IntKind.bits]
theorem vE {x:Int} (h:F7 x):IntKind.u32.wrap x=x:=by rw [wrap_u32];unfold F7 at h;omega
theorem O8 (x:Int) (h:F7 x) (w0:World):AM Tryz.prog 188 #[.int .u64 (IntKind.u64.wrap x)] w0 fun v w'=>v=wv x∧AA [] w0 w':=by
 rw [LJ h];unfold F7 at h;exact Oy x om om w0
def dist (p:Pt) (base:Int):Int:=p.w*sn p.t base+p.r
theorem WA {p:Pt} (h:p.In) (base:Int):-(4294967296*9223372036854775808)≤p.w*sn p.t base∧p.w*sn p.t base≤4294967296*9223372036854775808 :=
 mul_rng h.2.2.1 (Int.le_of_lt h.2.2.2) (by have:=sn_rng p.t base;omega) (by have:=sn_rng p.t base;omega)
theorem dist_in {p:Pt} (h:p.In) (base:Int):A9 (dist p base):=by
 have h1:=WA h base
 obtain ⟨_,⟨h2,h3⟩,_⟩:=h
 unfold dist A9;omega
theorem PE {x:Int} (h:A9 x):EU x = .tuple #[wv x,.bool true]:=if_pos h
theorem Mi (p:Pt) (base:Int) (h:p.In) (w0:World):AM Tryz.prog 143 #[pv p,.int .u64 base] w0 fun v w'=>v=wv (dist p base)∧AA [] w0 w':=by
 have h1:=WA h base
 have h4:=dist_in h base
 obtain ⟨⟨ht0,ht1⟩,⟨LK,MJ⟩,hw0,hw1⟩:=h
 have h2:=sn_rng p.t base
 have hs:=St.nil w0
 refine AQ Tryz.func143 Tryz.ntmps143 (k:=?_)
 repeat' (first|refine Al ?_|refine Nx.h ?_|(refine al hs (k:=?_);intro b w hz hs)|(refine bx hs (k:=?_);intro b w hz hs)|fail)
 refine dr [] hs (k:=?_);intro hX w hs
 refine tks 0 3 ?_
 refine tks 4 3 ?_
 refine GS 12 5 hs (k:=?_);intro f X w hp;have hs:=hp.st
 apply BH 3 12 (f:=f) (X:=X) hX hp;exact rfl;exact rfl;(apply AR AI;exact rfl);kernel_rfl;kernel_rfl;kernel_rfl;kernel_rfl;(intro X Y;(repeat (first | exact A4 | refine A3 ?_ (by exact rfl))));(intro w' hs;first|exact AH hs.hold|exact AH hs.hold.tail|exact A6 rfl);intro f X w hp;have hs:=hp.st
 refine cl (h:=by exact O8 p.w ⟨hw0,hw1⟩ _) (k:=?_)
 rintro v w' ⟨rfl,ho⟩;replace hp:=hp.only ho;replace hs:=hp.st;refine Jb ?_
 refine dn (k:=?_)
 apply BH 7 12 (f:=f) (X:=X) hX hp;exact rfl;exact rfl;(apply AR AI;exact rfl);kernel_rfl;kernel_rfl;kernel_rfl;kernel_rfl;(intro X Y;(repeat (first | exact A4 | refine A3 ?_ (by exact rfl))));(intro w' hs;first|exact AH hs.hold|exact AH hs.hold.tail|exact A6 rfl);intro f X w hp;have hs:=hp.st
 refine cl (h:=by exact IU p.t base _) (k:=?_)
 rintro v w' ⟨rfl,ho⟩;replace hp:=hp.only ho;replace hs:=hp.st;refine Jb ?_
 refine dn (k:=?_)
 apply BH 8 12 (f:=f) (X:=X) hX hp;exact rfl;exact rfl;(apply AR AI;exact rfl);kernel_rfl;kernel_rfl;kernel_rfl;kernel_rfl;(intro X Y;(repeat (first | exact A4 | refine A3 ?_ (by exact rfl))));(intro w' hs;first|exact AH hs.hold|exact AH hs.hold.tail|exact A6 rfl);intro f X w hp;have hs:=hp.st
 refine cl (h:=by exact PA p.w (sn p.t base) (by unfold A9;omega) om om _) (k:=?_)
 rw [PE (by unfold A9;omega)]
 rintro v w' ⟨rfl,ho⟩;replace hp:=hp.only ho;replace hs:=hp.st;refine Jb ?_
 refine dn (k:=?_)
 refine tk 9 hX (hc:=by cases f <;> kernel_rfl) (k:=?_)
 refine tk 10 hX (hc:=by cases f <;> kernel_rfl) (k:=?_)
 refine tk 11 hX (hc:=by cases f <;> kernel_rfl) (k:=?_)
 apply B9 12 (f:=f) (X:=X) hX hp;exact rfl;(apply AR AI;exact rfl);kernel_rfl;kernel_rfl;(intro X Y;(repeat (first | exact A4 | refine A3 ?_ (by exact rfl))));(intro w' hs;first|exact AH hs.hold|exact AH hs.hold.tail|exact A6 rfl);intro b w hI hs
 refine dt 13 hX (k:=?_)
 repeat' (first|refine Nx.h ?_|(refine AU hs (k:=?_);intro w hs)|fail)
 refine dn (k:=?_)
 refine tk 14 hX (k:=?_)
 refine en (k:=?_)
 refine Jb ?_
 refine dr [9] hs (k:=?_);intro hX w hs
 refine tks 0 4 ?_
 refine dt 4 hX (k:=?_)
 refine AY hs (h:=by exact O8 p.r ⟨LK,MJ⟩ _) (k:=?_);intro w' ho hs;refine Jb ?_
 refine dn (k:=?_)
 refine dt 5 hX (k:=?_)
 refine cl (h:=by exact PI (p.w*sn p.t base) p.r (by unfold A9;omega) (by unfold A9;omega) _) (k:=?_)
 rw [PE (x:=p.w*sn p.t base+p.r) h4]
 rintro v w' ⟨rfl,ho⟩;replace hs:=hs.AK ho;refine Jb ?_
 refine dn (k:=?_)
 refine tks 6 3 ?_
 refine dt 9 hX (k:=?_)
 repeat' (first|refine Nx.h ?_|(refine AU hs (k:=?_);intro w hs)|fail)
 refine dn (k:=?_)
 refine en (k:=?_)
 repeat' (first|refine Sa ?_|(refine AU hs (k:=?_);intro w hs)|fail)
 refine AF ?_
 exact ⟨rfl,hs.AD rfl⟩
theorem uV (x y:Int) (hx:A9 x) (hy:A9 y) (h:A9 (x+y)) (w0:World):AM Tryz.prog 144 #[wv x,wv y] w0 fun v w'=>v = .tuple #[wv (x+y),.bool true]∧AA [] w0 w':=by
 have:=PI x y hx hy w0;rwa [PE h] at this
theorem W6 (x n:Int) (hx:A9 x) (hn0:-9223372036854775808≤n) (Le:n < 9223372036854775808) (h:A9 (x*n)) (w0:World):AM Tryz.prog 142 #[wv x,.int .i64 n] w0 fun v w'=>v = .tuple #[wv (x*n),.bool true]∧AA [] w0 w':=by
 have:=PA x n hx hn0 Le w0;rwa [PE h] at this
theorem Nf (x y:Int) (hx:A9 x) (hy0:0 < y) (hy1:y < 18446744073709551616) (w0:World):AM Tryz.prog 86 #[wv x,.int .u64 y] w0 fun v w'=>v = .tuple #[wv (x / y),.int .u64 (x % y),.bool true]∧AA [] w0 w':=by
 have:=YW x y hx om hy1 w0;unfold TW at this;rwa [if_neg om] at this
theorem div_in {x y:Int} (hx:A9 x) (hy:0 < y):A9 (x / y):=by
 obtain ⟨h1,h2⟩:=hx
 unfold A9
 constructor
 ·rw [Int.le_ediv_iff_mul_le hy]
  have:-170141183460469231731687303715884105728*y≤-170141183460469231731687303715884105728:=by omega
  omega
 ·rw [Int.ediv_lt_iff_lt_mul hy]
  have:170141183460469231731687303715884105728≤170141183460469231731687303715884105728*y:=by omega
  omega
theorem mM (x y:Int) (hx:A9 x) (hy0:0 < y) (hy1:y < 4294967296) (w0:World):AM Tryz.prog 86 #[wv x,.int .u64 (IntKind.u64.wrap y)] w0 fun v w'=>v = .tuple #[wv (x / y),.int .u64 (x % y),.bool true]∧AA [] w0 w':=by
 rw [LJ ⟨by omega,hy1⟩];exact Nf x y hx hy0 om w0
theorem Un (x:Int) (hx:A9 x) (h:In64 x) (w0:World):AM Tryz.prog 87 #[wv x] w0 fun v w'=>v = .tuple #[.int .i64 x,.bool true]∧AA [] w0 w':=by
 have:=Nt x hx w0;unfold LA at this;rwa [if_pos h] at this
theorem lF (x:Int) (hx:A9 x) (h:¬ In64 x) (w0:World):AM Tryz.prog 87 #[wv x] w0 fun v w'=>v = .tuple #[.int .i64 0,.bool false]∧AA [] w0 w':=by
 have:=Nt x hx w0;unfold LA at this;rwa [if_neg h] at this
def OT (base d w:Int):Option Pt:=if Ek w=true∧In64 (d / w) then some ⟨lat base (d / w),d % w,w⟩ else none
def Pt.zero:Pt:=⟨0,0,0⟩
def qL (o:Option Pt):Value := .tuple #[pv (o.getD .zero),.bool o.isSome]
theorem Ej {w:Int}:Ek w=true↔1≤w∧w≤1048576:=by unfold Ek;simp
theorem at_some {base d w:Int} {p:Pt} (h:OT base d w=some p):p.In∧p.w=w∧p.right=true:=by
 unfold OT at h
 split at h
 ·rename_i hc
  cases h
  have h1:=Ej.1 hc.1
  have m0:=Int.emod_nonneg d (show w≠0 by omega)
  have m1:=Int.emod_lt_of_pos d (show 0 < w by omega)
  refine ⟨⟨VA _ _,⟨m0,by show d % w < _;omega⟩,by show 0≤w;omega,by show w < _;omega⟩,rfl,?_⟩
  unfold Pt.right
  simp only [hc.1,Bool.true_and,decide_eq_true_eq]
  exact m1
 ·cases h
theorem V4 (base d q:Int) (hd:A9 d) (w0:World):AM Tryz.prog 145 #[.int .u64 base,wv d,.int .u32 q] w0 fun v w'=>v=qL (OT base d q)∧AA [] w0 w':=by
 have hs:=St.nil w0
 refine AQ Tryz.func145 Tryz.ntmps145 (k:=?_)
 repeat' (first|refine Sa ?_|(refine al hs (k:=?_);intro b w hz hs)|(refine bx hs (k:=?_);intro b w hz hs)|fail)
 refine AY hs (h:=by exact Rh q _) (k:=?_);intro w' ho hs;repeat' (first|refine Sa ?_|(refine AU hs (k:=?_);intro w hs)|refine xc_cond rfl (fun hc=>?_) fun hc=>?_|fail)
 ·refine AF ?_
  refine ⟨?_,hs.AD rfl⟩
  have:Ek q=false:=by simpa using hc
  unfold OT
  rw [this];rfl
 ·have h0:Ek q=true:=by simpa using hc
  have h1:=Ej.1 h0
  refine AY hs (h:=by exact mM d q hd om om _) (k:=?_);intro w' ho hs;repeat' (first|refine Sa ?_|(refine AU hs (k:=?_);intro w hs)|(refine al hs (k:=?_);intro b w hz hs)|fail)
  by_cases pV:In64 (d / q)
  ·refine AY hs (h:=by exact Un (d / q) (div_in hd om) pV _) (k:=?_);intro w' ho hs;refine Jd ?_
   refine AY hs (h:=by exact VT base (d / q) _) (k:=?_);intro w' ho hs;repeat' (first|refine Sb ?_|(refine AU hs (k:=?_);intro w hs)|fail)
   refine AF ?_
   refine ⟨?_,hs.AD rfl⟩
   unfold OT
   rw [if_pos ⟨h0,pV⟩]
   have e:IntKind.u32.wrap (d % q)=d % q:=vE ⟨Int.emod_nonneg _ om,by have:=Int.emod_lt_of_pos d (show 0 < q by omega);omega⟩
   rw [e];rfl
  ·refine AY hs (h:=by exact lF (d / q) (div_in hd om) pV _) (k:=?_);intro w' ho hs;repeat' (first|refine Sc ?_|(refine AU hs (k:=?_);intro w hs)|fail)
   refine AF ?_
   refine ⟨?_,hs.AD rfl⟩
   unfold OT
   rw [if_neg (fun h=>pV h.2)];rfl
def tot (x:Int):Int:=if A9 x then x else 0
theorem tot_in (x:Int):A9 (tot x):=by unfold tot;split;assumption;decide
theorem NL (x:Int):EU x = .tuple #[wv (tot x),.bool (decide (A9 x))]:=by
 unfold EU tot;split <;> rename_i h <;> simp [h]
theorem Za (x y:Int) (hx:A9 x) (hy:A9 y) (w0:World):AM Tryz.prog 144 #[wv x,wv y] w0 fun v w'=>v = .tuple #[wv (tot (x+y)),.bool (decide (A9 (x+y)))]∧AA [] w0 w':=by
 have:=PI x y hx hy w0;rwa [NL] at this
theorem Uj (x y:Int) (hx:A9 x) (hy:A9 y) (w0:World):AM Tryz.prog 169 #[wv x,wv y] w0 fun v w'=>v = .tuple #[wv (tot (x - y)),.bool (decide (A9 (x - y)))]∧AA [] w0 w':=by
 have:=rS x y hx hy w0;rwa [NL] at this
theorem aE (x n:Int) (hx:A9 x) (hn:In64 n) (w0:World):AM Tryz.prog 142 #[wv x,.int .i64 n] w0 fun v w'=>v = .tuple #[wv (tot (x*n)),.bool (decide (A9 (x*n)))]∧AA [] w0 w':=by
 have:=PA x n hx hn.1 hn.2 w0;rwa [NL] at this
theorem zG (x:Int) (hx:A9 x) (w0:World):AM Tryz.prog 195 #[wv x] w0 fun v w'=>v = .tuple #[wv (tot (-x)),.bool (decide (A9 (-x)))]∧AA [] w0 w':=by
 have:=sS x hx w0;rwa [NL] at this
def sml (x:Int):Int:=if In64 x then x else 0
theorem rC (x:Int) (hx:A9 x) (w0:World):AM Tryz.prog 87 #[wv x] w0 fun v w'=>v = .tuple #[.int .i64 (sml x),.bool (decide (In64 x))]∧AA [] w0 w':=by
 have:=Nt x hx w0
 have e:LA x = .tuple #[.int .i64 (sml x),.bool (decide (In64 x))]:=by unfold LA sml;split <;> rename_i h <;> simp [h]
 rwa [e] at this
def Lv (p:Pt) (g:Int):Option Pt:=OT p.t (g+p.r) p.w
theorem Qp (p:Pt) (g:Int) (h:p.In) (hg:BV g) (w0:World):AM Tryz.prog 173 #[pv p,.int .u64 g] w0 fun v w'=>v=qL (Lv p g)∧AA [] w0 w':=by
 obtain ⟨⟨ht0,ht1⟩,⟨LK,MJ⟩,hw0,hw1⟩:=h
 obtain ⟨hg0,hg1⟩:=hg
 have hs:=St.nil w0
 refine AQ Tryz.func173 Tryz.ntmps173 (k:=?_)
 repeat' (first|refine Sa ?_|(refine al hs (k:=?_);intro b w hz hs)|(refine bx hs (k:=?_);intro b w hz hs)|fail)
 refine dr [] hs (k:=?_);intro hX w hs
 refine tk 0 hX (k:=?_)
 refine tks 2 3 ?_
 refine GS 10 6 hs (k:=?_);intro f X w hp;have hs:=hp.st
 apply BH 1 10 (f:=f) (X:=X) hX hp;exact rfl;exact rfl;(apply AR AI;exact rfl);kernel_rfl;kernel_rfl;kernel_rfl;kernel_rfl;(intro X Y;(repeat (first | exact A4 | refine A3 ?_ (by exact rfl))));(intro w' hs;first|exact AH hs.hold|exact AH hs.hold.tail|exact A6 rfl);intro f X w hp;have hs:=hp.st
 refine cl (h:=by exact Oy g om om _) (k:=?_)
 rintro v w' ⟨rfl,ho⟩;replace hp:=hp.only ho;replace hs:=hp.st;refine Jb ?_
 refine dn (k:=?_)
 apply BH 5 10 (f:=f) (X:=X) hX hp;exact rfl;exact rfl;(apply AR AI;exact rfl);kernel_rfl;kernel_rfl;kernel_rfl;kernel_rfl;(intro X Y;(repeat (first | exact A4 | refine A3 ?_ (by exact rfl))));(intro w' hs;first|exact AH hs.hold|exact AH hs.hold.tail|exact A6 rfl);intro f X w hp;have hs:=hp.st
 refine cl (h:=by exact O8 p.r ⟨LK,MJ⟩ _) (k:=?_)
 rintro v w' ⟨rfl,ho⟩;replace hp:=hp.only ho;replace hs:=hp.st;refine Jb ?_
 refine dn (k:=?_)
 apply BH 6 10 (f:=f) (X:=X) hX hp;exact rfl;exact rfl;(apply AR AI;exact rfl);kernel_rfl;kernel_rfl;kernel_rfl;kernel_rfl;(intro X Y;(repeat (first | exact A4 | refine A3 ?_ (by exact rfl))));(intro w' hs;first|exact AH hs.hold|exact AH hs.hold.tail|exact A6 rfl);intro f X w hp;have hs:=hp.st
 refine cl (h:=by exact uV g p.r (by unfold A9;omega) (by unfold A9;omega) (by unfold A9;omega) _) (k:=?_)
 rintro v w' ⟨rfl,ho⟩;replace hp:=hp.only ho;replace hs:=hp.st;refine Jb ?_
 refine dn (k:=?_)
 refine tk 7 hX (hc:=by cases f <;> kernel_rfl) (k:=?_)
 refine tk 8 hX (hc:=by cases f <;> kernel_rfl) (k:=?_)
 refine tk 9 hX (hc:=by cases f <;> kernel_rfl) (k:=?_)
 apply B9 10 (f:=f) (X:=X) hX hp;exact rfl;(apply AR AI;exact rfl);kernel_rfl;kernel_rfl;(intro X Y;(repeat (first | exact A4 | refine A3 ?_ (by exact rfl))));(intro w' hs;first|exact AH hs.hold|exact AH hs.hold.tail|exact A6 rfl);intro b w hI hs
 refine dt 11 hX (k:=?_)
 repeat' (first|refine Nx.h ?_|(refine AU hs (k:=?_);intro w hs)|fail)
 refine dn (k:=?_)
 refine tk 12 hX (k:=?_)
 refine en (k:=?_)
 refine Ja ?_
 refine AY hs (h:=by exact V4 p.t (g+p.r) p.w (by unfold A9;omega) _) (k:=?_);intro w' ho hs;repeat' (first|refine Sb ?_|(refine AU hs (k:=?_);intro w hs)|fail)
 refine AF ?_
 exact ⟨rfl,hs.AD rfl⟩
def JI (p q:Pt):Int:=if CX 0 (sn q.t p.t)=0 then CX (p.r*q.w) (q.r*p.w) else CX 0 (sn q.t p.t)
theorem jK {a b:Int} (ha:F7 a) (hb:F7 b):IntKind.u64.wrap (IntKind.u64.wrap a*IntKind.u64.wrap b)=a*b:=by
 rw [LJ ha,LJ hb]
 refine uN ⟨Int.mul_nonneg ha.1 hb.1,?_⟩
 have:=mul_rng (w:=a) (s:=b) (W:=4294967296) (S:=4294967296) ha.1 (Int.le_of_lt ha.2) (by have:=hb.1;omega) (Int.le_of_lt hb.2)
 have h1:=ha.2
 have h2:a*b≤a*4294967295:=Int.mul_le_mul_of_nonneg_left (by have:=hb.2;omega) ha.1
 omega
theorem WB (p q:Pt) (hp':p.In) (hq:q.In) (w0:World):AM Tryz.prog 212 #[pv p,pv q] w0 fun v w'=>v = .int .i64 (JI p q)∧AA [] w0 w':=by
 have hs:=St.nil w0
 refine AQ Tryz.func212 Tryz.ntmps212 (k:=?_)
 repeat' (first|refine Sa ?_|(refine bx hs (k:=?_);intro b w hz hs)|fail)
 refine dr [] hs (k:=?_);intro hX w hs
 refine tks 0 4 ?_
 refine tks 6 14 ?_
 refine E4 17 (congrArg (Value.int .u64) (jK hp'.2.1 hq.2.2)) ?_
 refine E4 24 (congrArg (Value.int .u64) (jK hq.2.1 hp'.2.2)) ?_
 refine dt 4 hX (k:=?_)
 refine AY hs (h:=by exact IU q.t p.t _) (k:=?_);intro w' ho hs;refine Jb ?_
 refine dn (k:=?_)
 refine dt 5 hX (k:=?_)
 refine AY hs (h:=by exact OE 0 (sn q.t p.t) _) (k:=?_);intro w' ho hs;refine Jb ?_
 refine dn (k:=?_)
 refine dt 20 hX (k:=?_)
 refine AY hs (h:=by exact OD (p.r*q.w) (q.r*p.w) _) (k:=?_);intro w' ho hs;refine Jb ?_
 refine dn (k:=?_)
 refine dt 21 hX (k:=?_)
 repeat' (first|refine Nx.h ?_|(refine bs hs (k:=?_);intro b w hz hs)|fail)
 refine dn (k:=?_)
 refine dt 22 hX (k:=?_)
 refine AY hs (h:=by exact dL _ _ _ _ _ (hs.get At.head)) (k:=?_);intro w' ho hs;refine Jb ?_
 refine dn (k:=?_)
 refine tk 23 hX (k:=?_)
 refine en (k:=?_)
 refine Jb ?_
 refine AF ?_
 exact ⟨rfl,hs.AD rfl⟩
def Pt.shift (p:Pt) (by_:Int):Pt:=⟨lat p.t by_,p.r,p.w⟩
theorem bD (p:Pt) (d:Int) (w0:World):AM Tryz.prog 260 #[pv p,.int .u64 d] w0 fun v w'=>v=pv (p.shift d)∧AA [] w0 w':=by
 have hs:=St.nil w0
 refine AQ Tryz.func260 Tryz.ntmps260 (k:=?_)
 repeat' (first|refine Sa ?_|(refine st hs (k:=?_);intro w hs)|(refine AU hs (k:=?_);intro w hs)|(refine al hs (k:=?_);intro b w hz hs)|(refine bx hs (k:=?_);intro b w hz hs)|fail)
 refine AF ?_
 refine ⟨?_,hs.AD rfl⟩
 unfold Pt.shift pv lat packed
 rw [wrap_u64]
structure It where
 p:Pt
 id:Int
 d:Pt
deriving DecidableEq
abbrev It.cells (a:It):List Value:=[.int .u64 a.p.t,.int .u32 a.p.r,.int .u32 a.p.w,.int .i64 a.id,.int .u64 a.d.t,.int .u32 a.d.r,.int .u32 a.d.w]
def iv (a:It):Value := .agg #[.int .u64 a.p.t,.int .u32 a.p.r,.int .u32 a.p.w,.int .i64 a.id,.int .u64 a.d.t,.int .u32 a.d.r,.int .u32 a.d.w]
def It.In (a:It):Prop:=a.p.In∧In64 a.id∧a.d.In
instance (a:It):Decidable a.In:=by unfold It.In;infer_instance
def It.zero:It:=⟨.zero,0,.zero⟩
def It.right (a:It):Bool:=a.p.right && a.d.right && decide (a.p.w=a.d.w) && decide (0 < a.id) && decide (0≤sn a.d.t a.p.t) && decide (sn a.d.t a.p.t≤1152921504606846976)
theorem Mk (a:It) (w0:World):AM Tryz.prog 190 #[iv a] w0 fun v w'=>v = .bool a.right∧AA [] w0 w':=by
 have hs:=St.nil w0
 refine AQ Tryz.func190 Tryz.ntmps190 (k:=?_)
 repeat' (first|refine Sa ?_|(refine bx hs (k:=?_);intro b w hz hs)|fail)
 refine AY hs (h:=by exact IU a.d.t a.p.t _) (k:=?_);intro w' ho hs;refine Ja ?_
 refine AY hs (h:=by exact FI a.p _) (k:=?_);intro w' ho hs;repeat' (first|refine vs (k:=?_)|refine ps (k:=?_)|refine Nx.h ?_|((with_reducible apply BM);exact rfl;exact rfl;intro c hc;(fail_if_success have:true=c:=hc);(fail_if_success have:false=c:=hc);cases c)|fail)
 ·refine AF ?_
  refine ⟨?_,hs.AD rfl⟩
  clear hs
  unfold It.right packed
  simp_all
 ·refine AY hs (h:=by exact FI a.d _) (k:=?_);intro w' ho hs;repeat' (first|refine vs (k:=?_)|refine ps (k:=?_)|refine Nx.h ?_|((with_reducible apply BM);exact rfl;exact rfl;intro c hc;(fail_if_success have:true=c:=hc);(fail_if_success have:false=c:=hc);cases c)|fail)
  all_goals (refine AF ?_)
  all_goals refine ⟨?_,hs.AD rfl⟩
  all_goals clear hs
  all_goals (unfold It.right packed;simp_all <;> omega)
def ahead (a b:It):Bool:=decide (JI a.p b.p < 0) || (decide (JI a.p b.p=0) && decide (a.id < b.id))
theorem Ti (x y:It) (ha:x.In) (hb:y.In) (w0:World):AM Tryz.prog 176 #[iv x,iv y] w0 fun v w'=>v = .bool (ahead x y)∧AA [] w0 w':=by
 have hs:=St.nil w0
 refine AQ Tryz.func176 Tryz.ntmps176 (k:=?_)
 repeat' (first|refine Sa ?_|(refine bx hs (k:=?_);intro b w hz hs)|fail)
 refine AY hs (h:=by exact WB x.p y.p ha.1 hb.1 _) (k:=?_);intro w' ho hs;repeat' (first|refine Sf ?_|((with_reducible apply BM);exact rfl;exact rfl;intro c hc;(fail_if_success have:true=c:=hc);(fail_if_success have:false=c:=hc);cases c)|fail)
 all_goals (refine AF ?_)
 all_goals refine ⟨?_,hs.AD rfl⟩
 all_goals clear hs
 all_goals (unfold ahead packed;simp_all)
def due (a b:It):Bool:=decide (JI a.d b.d < 0) || (decide (JI a.d b.d=0) && ahead a b)
theorem S7 (x y:It) (ha:x.In) (hb:y.In) (w0:World):AM Tryz.prog 233 #[iv x,iv y] w0 fun v w'=>v = .bool (due x y)∧AA [] w0 w':=by
 have hs:=St.nil w0
 refine AQ Tryz.func233 Tryz.ntmps233 (k:=?_)
 repeat' (first|refine Sa ?_|(refine bx hs (k:=?_);intro b w hz hs)|fail)
 refine AY hs (h:=by exact WB x.d y.d ha.2.2 hb.2.2 _) (k:=?_);intro w' ho hs;repeat' (first|refine Sf ?_|((with_reducible apply BM);exact rfl;exact rfl;intro c hc;(fail_if_success have:true=c:=hc);(fail_if_success have:false=c:=hc);cases c)|fail)
 ·refine AF ?_
  refine ⟨?_,hs.AD rfl⟩
  clear hs
  unfold due packed;simp_all
 ·refine AY hs (h:=by exact Ti x y ha hb _) (k:=?_);intro w' ho hs;refine Jc ?_
  refine AF ?_
  refine ⟨?_,hs.AD rfl⟩
  clear hs
  unfold due packed;simp_all
 ·refine AF ?_
  refine ⟨?_,hs.AD rfl⟩
  clear hs
  unfold due packed;simp_all
theorem D2 {i m:Nat} (h:i < m) (hm:m≤9223372036854775807):IntKind.i64.wrap ((i:Int)+1)=((i+1:Nat):Int):=by
 rw [wrap_i64];omega
def WJ (w:World) (v:Value) (ps:List Pt):Prop:=Cn w 62 3 v (ps.map Pt.cells)
def Iw (w:World) (v:Value) (l:List It):Prop:=Cn w 64 7 v (l.map It.cells)
def sinces (base:Int) (ps:List Pt):List Int:=ps.map fun p=>sn p.t base
theorem sG {l:List Int} (h:∀ d∈l,In64 d):In64 (IC l):=by
 cases l with
 | nil=>decide
 | cons d l =>
   have:∀ (l:List Int) (a:Int),In64 a→(∀ d∈l,In64 d)→In64 (l.foldl (fun a b=>if b < a then b else a) a):=by
    intro l
    induction l with
    | nil=>intro a ha _;exact ha
    | cons b l ih =>
      intro a ha hl
      refine ih _ ?_ (fun d hd=>hl d (List.mem_cons_of_mem _ hd))
      show In64 (if b < a then b else a)
      split
      ·exact hl b List.mem_cons_self
      ·exact ha
   exact this l d (h d List.mem_cons_self) fun x hx=>h x (List.mem_cons_of_mem _ hx)
theorem rF {l:List Int} (h:∀ d∈l,In64 d):In64 (IP l):=by
 cases l with
 | nil=>decide
 | cons d l =>
   have:∀ (l:List Int) (a:Int),In64 a→(∀ d∈l,In64 d)→In64 (l.foldl (fun a b=>if b > a then b else a) a):=by
    intro l
    induction l with
    | nil=>intro a ha _;exact ha
    | cons b l ih =>
      intro a ha hl
      refine ih _ ?_ (fun d hd=>hl d (List.mem_cons_of_mem _ hd))
      show In64 (if b > a then b else a)
      split
      ·exact hl b List.mem_cons_self
      ·exact ha
   exact this l d (h d List.mem_cons_self) fun x hx=>h x (List.mem_cons_of_mem _ hx)
theorem C4 {α:Type} {l:List α} {i:Nat} (h:i < l.length):l.take (i+1)=l.take i ++ [l[i]]:=by simp
theorem RW (base:Int) (ps:List Pt) (sl:Value) (hm:ps.length≤9223372036854775807) (w0:World) (hP:WJ w0 sl ps) :
 AM Tryz.prog 235 #[.int .u64 base,sl] w0 fun v w'=>v = .tuple #[.int .i64 (IC (sinces base ps)),.int .i64 (IP (sinces base ps))]∧AA [] w0 w':=by
 obtain ⟨ad,cap,rfl,hD⟩:=hP
 rw [List.length_map] at *
 have hs:=St.nil w0
 refine AQ Tryz.func235 Tryz.ntmps235 (k:=?_)
 refine Ja ?_
 refine BN (fun (_:Unit)=>[(4,.int .i64 (IC (sinces base ps))),(5,.int .i64 (IP (sinces base ps)))]) (fun _ w=>St w0 D0 [] w) ?_ ?_
 ·refine BD (fun (i:Nat)=>[(0,.int .u64 base),(4,.int .i64 (IC (sinces base (ps.take i)))),(5,.int .i64 (IP (sinces base (ps.take i)))),(9,.slice ad ps.length cap),(10,.int .i64 (ps.length:Nat)),(11,.int .i64 (i:Nat))])
   (fun i w=>i≤ps.length∧St w0 D0 [] w) (fun i=>ps.length - i) 0 Ab ⟨Nat.zero_le _,hs⟩ fun i env w ⟨hi,hs⟩=>?_
  repeat' (first|refine Sa ?_|refine Au rfl (fun hc=>?_) fun hc=>?_|fail)
  ·have hlt:i < ps.length:=by omega
   obtain ⟨b,off,cs,fz,rfl,_,hb,hcs⟩:=hD (fun h=>by simp at h;subst h;cases hlt)
   have hpk:=hcs i (Pt.cells ps[i]) (by rw [List.getElem?_map,List.getElem?_eq_getElem hlt];rfl)
   have T6:sinces base (ps.take (i+1))=sinces base (ps.take i) ++ [sn ps[i].t base]:=by rw [C4 hlt];unfold sinces;rw [List.map_append];rfl
   have h0:sinces base (ps.take i)=[]↔i=0:=by
    unfold sinces
    rw [List.map_eq_nil_iff,List.take_eq_nil_iff]
    constructor
    ·rintro (h | h)
     ·exact h
     ·subst h;simp at hlt
    ·exact .inl
   have WC:=jY (sinces base (ps.take i)) (sn ps[i].t base)
   have VI:=iG (sinces base (ps.take i)) (sn ps[i].t base)
   rw [← T6] at WC VI
   have ei:=D2 hlt hm
   generalize ps[i]=p at *
   refine ix (h0:=(by omega)) (h1:=(by omega)) (k:=?_)
   refine KH ((hs.AD rfl).block hb (by simp)) hpk (k:=?_)
   refine al hs (k:=?_);intro b7 w hz hs
   repeat' (first|refine Sa ?_|(refine AU hs (k:=?_);intro w hs)|fail)
   refine AY hs (h:=by exact IU p.t base _) (k:=?_);intro w' ho hs;repeat' (first|refine Sa ?_|refine Au rfl (fun hc=>?_) fun hc=>?_|fail)
   ·have hi0:i=0:=by omega
    rw [if_pos (h0.2 hi0)] at WC VI
    have e1:(if sn p.t base < sn p.t base then sn p.t base else sn p.t base)=IC (sinces base (ps.take (i+1))):=by rw [WC];split <;> rfl
    have e2:(if sn p.t base > sn p.t base then sn p.t base else sn p.t base)=IP (sinces base (ps.take (i+1))):=by rw [VI];split <;> rfl
    exact A2 (i+1) om (by (repeat (first | exact Ac | (apply A5;first | exact rfl | exact congrArg (Value.int .i64) e1 | exact congrArg (Value.int .i64) e2 | exact congrArg (Value.int .i64) ei)))) ⟨by omega,hs.Bt⟩
   ·have hi0:¬ i=0:=by omega
    rw [if_neg (fun h=>hi0 (h0.1 h))] at WC VI
    exact A2 (i+1) om (by (repeat (first | exact Ac | (apply A5;first | exact rfl | exact congrArg (Value.int .i64) WC.symm | exact congrArg (Value.int .i64) VI.symm | exact congrArg (Value.int .i64) ei)))) ⟨by omega,hs.Bt⟩
  ·have e:i=ps.length:=by omega
   rw [e,List.take_length]
   exact Ar () Ab hs
 ·rintro _ env w hs
  refine Ja ?_
  refine AF ?_
  exact ⟨rfl,hs.AD rfl⟩
def soonest (a:It) (l:List It):It:=l.foldl (fun a b=>bif due b a then b else a) a
theorem WI (a:It) (l:List It) (b:It):soonest a (l ++ [b])=bif due b (soonest a l) then b else soonest a l:=by unfold soonest;rw [List.foldl_append];rfl
theorem Z3 {a:It} (ha:a.In):∀ {l:List It},(∀ b∈l,b.In)→(soonest a l).In:=by
 intro l
 unfold soonest
 induction l generalizing a with
 | nil=>intro _;exact ha
 | cons b l ih =>
   intro hl
   refine ih ?_ (fun c hc=>hl c (List.mem_cons_of_mem _ hc))
   show (bif due b a then b else a).In
   cases due b a
   ·exact ha
   ·exact hl b List.mem_cons_self
theorem Xy (x:It) (l:List It) (sl:Value) (hx:x.In) (hl:∀ b∈l,b.In) (hm:l.length≤9223372036854775807) (w0:World) (hP:Iw w0 sl l) :
 AM Tryz.prog 213 #[iv x,sl] w0 fun v w'=>v=iv (soonest x l)∧AA [] w0 w':=by
 obtain ⟨ad,cap,rfl,hD⟩:=hP
 rw [List.length_map] at *
 have hs:=St.nil w0
 refine AQ Tryz.func213 Tryz.ntmps213 (k:=?_)
 refine Ag ?_
 refine Al ?_
 refine bx hs (k:=?_);intro b2 w hz hs
 refine al hs (k:=?_);intro b4 w hz hs
 refine Ja ?_
 refine BN (fun (_:Unit)=>[(2,.pointer (some ⟨b2,0,none⟩)),(4,.pointer (some ⟨b4,0,none⟩))]) (fun _ w=>St w0 D0 [(b4,.cells It.zero.cells.toArray 64,true),(b2,.cells (soonest x l).cells.toArray 64,true)] w) ?_ ?_
 ·refine BD (fun (i:Nat)=>[(2,.pointer (some ⟨b2,0,none⟩)),(4,.pointer (some ⟨b4,0,none⟩)),(7,.slice ad l.length cap),(8,.int .i64 (l.length:Nat)),(9,.int .i64 (i:Nat))])
   (fun i w=>i≤l.length∧St w0 D0 [(b4,.cells It.zero.cells.toArray 64,true),(b2,.cells (soonest x (l.take i)).cells.toArray 64,true)] w) (fun i=>l.length - i) 0 Ab ⟨Nat.zero_le _,hs⟩ fun i env w ⟨hi,hs⟩=>?_
  repeat' (first|refine Sa ?_|refine Au rfl (fun hc=>?_) fun hc=>?_|fail)
  ·have hlt:i < l.length:=by omega
   obtain ⟨b,off,cs,fz,rfl,_,hb,hcs⟩:=hD (fun h=>by simp at h;subst h;cases hlt)
   have hpk:=hcs i (It.cells l[i]) (by rw [List.getElem?_map,List.getElem?_eq_getElem hlt];rfl)
   have N7:=WI x (l.take i) l[i]
   rw [← C4 hlt] at N7
   have hin:=hl l[i] (List.getElem_mem hlt)
   have aA4:=Z3 hx (l:=l.take i) (fun c hc=>hl c (List.mem_of_mem_take hc))
   have ei:=D2 hlt hm
   generalize l[i]=q at *
   generalize soonest x (l.take i)=y at *
   refine ix (h0:=(by omega)) (h1:=(by omega)) (k:=?_)
   refine KH ((hs.AD rfl).block hb (by simp)) hpk (k:=?_)
   refine al hs (k:=?_);intro b6 w hz hs
   repeat' (first|refine Sa ?_|(refine AU hs (k:=?_);intro w hs)|fail)
   refine AY hs (h:=by exact S7 q y hin aA4 _) (k:=?_);intro w' ho hs;repeat' (first|refine Sa ?_|(refine AU hs (k:=?_);intro w hs)|refine xc_cond rfl (fun hc=>?_) fun hc=>?_|fail)
   ·rw [hc,cond_true] at N7
    exact A2 (i+1) om (by (repeat (first | exact Ac | (apply A5;first | exact rfl | exact congrArg (Value.int .i64) ei)))) ⟨by omega,by rw [N7];exact hs.Bt⟩
   ·rw [hc,cond_false] at N7
    exact A2 (i+1) om (by (repeat (first | exact Ac | (apply A5;first | exact rfl | exact congrArg (Value.int .i64) ei)))) ⟨by omega,by rw [N7];exact hs.Bt⟩
  ·have e:i=l.length:=by omega
   rw [e,List.take_length] at hs
   exact Ar () Ab hs
 ·rintro _ env w hs
  repeat' (first|refine Sa ?_|(refine AU hs (k:=?_);intro w hs)|fail)
  refine AF ?_
  exact ⟨rfl,hs.AD rfl⟩
end Go.Proofs.Q0
namespace Go.Proofs.Q0
open Go Go.RowKit
def R6 (w:World) (k:Nat) (v:Value) (xs:List (List Value)):Prop :=
 ∃ ad cap,v = .slice ad xs.length cap∧(xs≠[]→∃ (b off:Nat) (cs:List Value) (E:TypeId) (fz:Nat × Nat),ad=some ⟨b,off,none⟩∧w.heap[b]?=some (.cells cs.toArray E fz)∧∀ (i:Nat) x,xs[i]?=some x→Dc cs (off+i*k) k x)
theorem R6.only {w w':World} {k:Nat} {v:Value} {xs:List (List Value)} (h:R6 w k v xs) (ho:AA [] w w'):R6 w' k v xs:=by
 obtain ⟨ad,cap,rfl,h⟩:=h
 refine ⟨ad,cap,rfl,fun hn=>?_⟩
 obtain ⟨b,off,cs,E,fz,h1,h2,h3⟩:=h hn
 exact ⟨b,off,cs,E,fz,h1,ho.block h2 (by simp),h3⟩
theorem Cn.x {w:World} {E k:Nat} {v:Value} {xs:List (List Value)} (h:Cn w E k v xs):R6 w k v xs:=by
 obtain ⟨ad,cap,rfl,h⟩:=h
 refine ⟨ad,cap,rfl,fun hn=>?_⟩
 obtain ⟨b,off,cs,fz,h1,_,h2,h3⟩:=h hn
 exact ⟨b,off,cs,E,fz,h1,h2,h3⟩
end Go.Proofs.Q0
namespace Go.Proofs.Q0
open Go Go.RowKit Go.ChangeShapes Go.WideShapes Go.ChangeAt
theorem RG {w:World} {a:Addr} {v:Value} (h:w.cell? a=some v):∃ cs E fz,w.heap[a.block]?=some (.cells cs E fz)∧a.spot=none∧cs[a.off]?=some v:=by
 unfold World.cell? at h
 split at h
 ·rename_i cs E fz hb
  split at h
  ·cases h
  ·rename_i hs
   exact ⟨cs,E,fz,hb,by simpa using hs,h⟩
 ·cases h
theorem cell_of_block {w:World} {a:Addr} {v:Value} {cs:Array Value} {E:TypeId} {fz:Nat × Nat} (h:w.cell? a=some v) (hb:w.heap[a.block]?=some (.cells cs E fz)):cs[a.off]?=some v:=by
 obtain ⟨cs',E',gV,h1,_,h2⟩:=RG h
 rw [hb] at h1
 cases h1
 exact h2
theorem XP (b o k:Nat):(⟨b,o,none⟩:Addr).add k=⟨b,o+k,none⟩:=by
 unfold Addr.add
 split <;> simp_all
theorem Ox {x:Int} (h:Lit.wf (.int .i64 x)=true):In64 x:=by
 have h:IntKind.i64.min≤x∧x≤IntKind.i64.max:=by simpa [Lit.wf] using h
 have e1:IntKind.i64.min=-9223372036854775808:=rfl
 have e2:IntKind.i64.max=9223372036854775807:=rfl
 unfold In64;omega
theorem M5 {x:Int} (h:Lit.wf (.int .u64 x)=true):BV x:=by
 have h:IntKind.u64.min≤x∧x≤IntKind.u64.max:=by simpa [Lit.wf] using h
 have e1:IntKind.u64.min=0:=rfl
 have e2:IntKind.u64.max=18446744073709551615:=rfl
 unfold BV;omega
theorem tG {x:Int} (h:Lit.wf (.int .u8 x)=true):0≤x∧x < 256:=by
 have h:IntKind.u8.min≤x∧x≤IntKind.u8.max:=by simpa [Lit.wf] using h
 have e1:IntKind.u8.min=0:=rfl
 have e2:IntKind.u8.max=255:=rfl
 omega
theorem pick_at {cs:List Value}:∀ {vs:List Value} {off m:Nat},vs.length=m→(∀ j,j < m→cs[off+j]?=vs[j]?)→Dc cs off m vs
 | [],off,m,hm,h=>by subst hm;exact .nil
 | v :: vs,off,m,hm,h=>by
   subst hm
   refine .cons (by have:=h 0 (by simp);simpa using this) (pick_at rfl fun j hj=>?_)
   have:=h (j+1) (by simp;omega)
   rw [show off+1+j=off+(j+1) by omega]
   simpa using this
theorem open_rows {H:Type} {enc:TypeId × Value→H} {W:World} {r:Reach} {b0 base:Nat} {spare:Nat→Bool} {held:Bool} {v:Value} {d:DataW H} {p:List MemPlace} {α:Type} [Inhabited α] {t e k:Nat} {cells:α→List Value} {Q:α→Prop}
 (ht:Tryz.prog.underlying t=some (.slice e)) (ce:Tryz.prog.cellsOf e=k) (hk:0 < k) (hlen:∀ q,(cells q).length=k)
 (dec:∀ (fuel:Nat) (cs:List Value) x,DataW.trod enc Tryz.prog W base spare held fuel e cs=some x→∃ q,cs=cells q∧Q q)
 (hv:Value.okWide Tryz.prog W r b0 t v) (h:DataW.Trod enc Tryz.prog W base spare held t v d p):∃ xs:List α,R6 W k v (xs.map cells)∧∀ a∈xs,Q a:=by
 obtain ⟨a0,len,cap,rfl⟩:=okWide_slice ht hv
 obtain ⟨fuel,hf⟩:=h
 rcases Deep.open_slice ht hf with ⟨hc,hx⟩ | ⟨a,len',cap',m,n,D,Pl,hc,hb,hl,hm,hmm,hx,hall⟩
 ·obtain ⟨rfl,rfl,rfl⟩:a0=none∧len=0∧cap=0:=by injection hc with h1 h2;injection h1 with h1 h2 h3;exact ⟨h1,h2,h3⟩
  exact ⟨[],⟨none,0,rfl,fun h=>absurd rfl h⟩,by simp⟩
 ·obtain ⟨rfl,rfl,rfl⟩:a0=some a∧len=len'∧cap=cap':=by injection hc with h1 h2;injection h1 with h1 h2 h3;exact ⟨h1,h2,h3⟩
  have hlm:len≤m:=by rw [hmm];split <;> omega
  have each:∀ i,i < len→∃ q:α,W.cells? base (a.add (i*k)) k=some (cells q)∧Q q:=fun i hi=>by
   obtain ⟨cs',h1,h2⟩:=hall i om
   obtain ⟨q,rfl,hq⟩:=dec _ _ _ h2
   rw [ce] at h1
   exact ⟨q,h1,hq⟩
  obtain ⟨f,hfq⟩:=Deep.choose_lt each
  refine ⟨(List.range len).map f,⟨some a,cap,by simp,fun hn=>?_⟩,fun x hx=>by obtain ⟨i,hi,rfl⟩:=List.mem_map.1 hx;exact (hfq i (List.mem_range.1 hi)).2⟩
  have h0:0 < len:=by
   rcases Nat.eq_zero_or_pos len with h0 | h0
   ·subst h0;exact absurd rfl hn
   ·exact h0
  have hcell:∀ i,i < len→∀ j,j < k→W.cell? ((a.add (i*k)).add j)=(cells (f i))[j]?:=fun i hi=>(World.cells?_some (hfq i hi).1).2.2
  have hc0:=hcell 0 h0 0 hk
  rw [List.getElem?_eq_getElem (by rw [hlen];exact hk)] at hc0
  obtain ⟨cs,E,fz,hb',hsp,_⟩:=RG hc0
  obtain ⟨ab,ao,xI⟩:=a
  have e0:((⟨ab,ao,xI⟩:Addr).add (0*k)).add 0=⟨ab,ao,xI⟩:=by simp [Addr.add]
  rw [e0] at hb' hsp
  obtain rfl:xI=none:=hsp
  refine ⟨ab,ao,cs.toList,E,fz,rfl,by simpa using hb',fun i x hx=>?_⟩
  have hi:i < len:=by
   rcases Nat.lt_or_ge i len with h1 | h1
   ·exact h1
   ·rw [List.getElem?_eq_none (by simpa using h1)] at hx;cases hx
  have hx':cells (f i)=x:=by
   rw [List.getElem?_map,List.getElem?_map,List.getElem?_range hi] at hx
   exact Option.some.inj hx
  subst hx'
  refine pick_at (hlen _) fun j hj=>?_
  have g0:=hcell i hi j hj
  rw [XP,XP] at g0
  have g1:(cells (f i))[j]?=some ((cells (f i))[j]'(by rw [hlen];exact hj)):=List.getElem?_eq_getElem _
  rw [g1] at g0
  have:=cell_of_block g0 hb'
  rw [g1]
  simpa [Nat.add_assoc] using this
end Go.Proofs.Q0
