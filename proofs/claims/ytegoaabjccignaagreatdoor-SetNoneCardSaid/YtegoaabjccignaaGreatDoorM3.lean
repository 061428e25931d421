/- A part of the proof: what its functions compute. -/
import Derived.Test.YtegoaabjccignaaGreatDoorM2
set_option linter.unusedVariables false
set_option linter.unusedSimpArgs false
set_option maxRecDepth 100000
namespace Go.Proofs.YtegoaabjccignaaGreatDoorX
open Go Go.RowKit
attribute [local irreducible] XS XC XA thenE blockE retE loopE loopS cutB cutN doneE SE
theorem long_div (h l y : Int) (hy : 0 < y) (hl0 : 0 ≤ l) (hl1 : l < 18446744073709551616) : (h * 18446744073709551616 + l) / y = h / y * 18446744073709551616 + (h % y * 18446744073709551616 + l) / y ∧
    (h * 18446744073709551616 + l) % y = (h % y * 18446744073709551616 + l) % y ∧ 0 ≤ (h % y * 18446744073709551616 + l) / y ∧ (h % y * 18446744073709551616 + l) / y < 18446744073709551616 := by
  have e1 := Int.mul_ediv_add_emod h y
  have e2 := Int.emod_nonneg h (show y ≠ 0 by omega)
  have e3 := Int.emod_lt_of_pos h hy
  have e : h * 18446744073709551616 + l = (h % y * 18446744073709551616 + l) + h / y * 18446744073709551616 * y := by
    generalize h / y = q at *
    generalize h % y = r at *
    subst e1
    grind
  refine ⟨?_, ?_, Int.ediv_nonneg (by omega) (by omega), ?_⟩
  · rw [e, Int.add_mul_ediv_right _ _ (by omega)]; omega
  · rw [e, Int.add_mul_emod_self_right]
  · rw [Int.ediv_lt_iff_lt_mul hy]
    have : (h % y + 1) * 18446744073709551616 ≤ y * 18446744073709551616 := by omega
    rw [Int.mul_comm 18446744073709551616 y]
    omega
def divV (x y : Int) : Value := if y = 0 then .tuple #[wv 0, .int .u64 0, .bool false] else .tuple #[wv (x / y), .int .u64 (x % y), .bool true]
theorem divV_no {x : Int} : packed [Value.agg #[.int .i64 0, .int .u64 0], .int .u64 0, .bool false] = divV x 0 := rfl
theorem divV_ok {x y r : Int} {v : Value} (hy : y ≠ 0) (hv : v = wv (x / y)) (hr : r = x % y) : packed [v, .int .u64 r, .bool true] = divV x y := by
  unfold divV; rw [if_neg hy, hv, hr]; rfl
theorem neg_div {X y q r : Int} (hy : 0 < y) (hq : X / y = q) (hr : X % y = r) : (0 < r → -X / y = -(q + 1) ∧ -X % y = y - r) ∧ (¬ 0 < r → -X / y = -q ∧ -X % y = 0) := by
  have e1 := Int.mul_ediv_add_emod X y
  have e2 := Int.emod_nonneg X (show y ≠ 0 by omega)
  have e3 := Int.emod_lt_of_pos X hy
  rw [hq, hr] at e1
  rw [hr] at e2 e3
  refine ⟨fun h => ?_, fun h => ?_⟩
  · have e : -X = (y - r) + -(q + 1) * y := by subst e1; grind
    constructor
    · rw [e, Int.add_mul_ediv_right _ _ (by omega), Int.ediv_eq_zero_of_lt (by omega) (by omega)]; omega
    · rw [e, Int.add_mul_emod_self_right, Int.emod_eq_of_lt (by omega) (by omega)]
  · have e : -X = 0 + -q * y := by subst e1; grind
    constructor
    · rw [e, Int.add_mul_ediv_right _ _ (by omega)]; simp
    · rw [e, Int.add_mul_emod_self_right]; simp
set_option maxHeartbeats 400000 in
theorem div_ret (x y : Int) (hx : InW x) (hy0 : 0 ≤ y) (hy1 : y < 18446744073709551616) (w0 : World) : Ret Tryz.prog 63 #[wv x, .int .u64 y] w0 fun v w' => v = divV x y ∧ Only [] w0 w' := by
  have hx' := hx
  obtain ⟨hx1, hx2⟩ := hx
  have hs := St.nil w0
  obtain ⟨X, hX⟩ := abs_ex x
  have hX0 := hX
  obtain ⟨hX1, hX2⟩ := hX
  refine ret_of_xc Tryz.func63 (by kernel_rfl) rfl Tryz.ntmps63 rfl rfl rfl ?_
  repeat' (first|refine vs (k:=?_)|refine ps (k:=?_)|((first|refine st hs (k:=?_)|refine stA hs (k:=?_));intro w hs)|((first|refine al hs (k:=?_)|refine bx hs (k:=?_)|refine bs hs (k:=?_));intro b w hz hs)|refine qRg ?_|refine Nx.h ?_|refine qBo ?_|refine qCt ?_|refine qCf ?_|((with_reducible apply xs_guard);exact rfl;exact rfl;intro c hc;(fail_if_success have:true=c:=hc);(fail_if_success have:false=c:=hc);cases c)|(refine xc_if rfl (fun hc=>?_) (fun hc=>?_))|(refine xc_cond rfl (fun hc=>?_) (fun hc=>?_)))
  · first | refine rt (hq := ?_) | refine rt' (hq := ?_)
    have : y = 0 := by omega
    subst this
    exact ⟨divV_no, hs.only0 rfl⟩
  (with_reducible apply xs_call); exact rfl; exact rfl; exact size_of hx' hX0 _
  rintro v w' ⟨rfl, ho⟩; replace hs := hs.call0 ho
  repeat' (first|refine vs (k:=?_)|refine ps (k:=?_)|((first|refine st hs (k:=?_)|refine stA hs (k:=?_));intro w hs)|((first|refine al hs (k:=?_)|refine bx hs (k:=?_)|refine bs hs (k:=?_));intro b w hz hs)|refine qRg ?_|refine Nx.h ?_|refine qBo ?_|refine qCt ?_|refine qCf ?_|((with_reducible apply xs_guard);exact rfl;exact rfl;intro c hc;(fail_if_success have:true=c:=hc);(fail_if_success have:false=c:=hc);cases c)|(refine xc_if rfl (fun hc=>?_) (fun hc=>?_))|(refine xc_cond rfl (fun hc=>?_) (fun hc=>?_)))
  refine dr [] hs (k := ?_); intro hX w hs
  refine tk 0 hX (k := ?_)
  refine tk 1 hX (k := ?_)
  refine tk 2 hX (k := ?_)
  refine tk 3 hX (k := ?_)
  refine tk 4 hX (k := ?_)
  refine tk 5 hX (k := ?_)
  refine tk 6 hX (k := ?_)
  refine tk 7 hX (k := ?_)
  refine en (k := ?_)
  repeat' (first|refine vs (k:=?_)|refine ps (k:=?_)|((first|refine st hs (k:=?_)|refine stA hs (k:=?_));intro w hs)|((first|refine al hs (k:=?_)|refine bx hs (k:=?_)|refine bs hs (k:=?_));intro b w hz hs)|refine qRg ?_|refine Nx.h ?_|refine qBo ?_|refine qCt ?_|refine qCf ?_|((with_reducible apply xs_guard);exact rfl;exact rfl;intro c hc;(fail_if_success have:true=c:=hc);(fail_if_success have:false=c:=hc);cases c)|(refine xc_if rfl (fun hc=>?_) (fun hc=>?_))|(refine xc_cond rfl (fun hc=>?_) (fun hc=>?_)))
  (with_reducible apply xs_call); exact rfl; exact rfl; exact div64_ret _ _ _ (Int.emod_nonneg _ (by omega)) (Int.emod_lt_of_pos _ (by omega)) (by omega) (by omega) (by omega) _
  rintro v w' ⟨rfl, ho⟩; replace hs := hs.call0 ho
  obtain ⟨d1, d2, d3, d4⟩ := long_div (X / 18446744073709551616) (X % 18446744073709551616) y (by omega) (by omega) (by omega)
  rw [show X / 18446744073709551616 * 18446744073709551616 + X % 18446744073709551616 = X by omega] at d1 d2
  have d5 := Int.emod_nonneg X (show y ≠ 0 by omega)
  have d6 := Int.emod_lt_of_pos X (show 0 < y by omega)
  have d7 : 0 ≤ X / 18446744073709551616 / y := Int.ediv_nonneg (by omega) (by omega)
  have d8 : X / y ≤ X := Int.ediv_le_self y hX1
  have d9 : X / y + X % y ≤ X := by
    have e1 := Int.mul_ediv_add_emod X y
    have e2 : 1 * (X / y) ≤ y * (X / y) := Int.mul_le_mul_of_nonneg_right (by omega) (Int.ediv_nonneg hX1 (by omega))
    omega
  rw [d2] at d5 d6 d9
  generalize X / 18446744073709551616 / y = q1 at *
  generalize (X / 18446744073709551616 % y * 18446744073709551616 + X % 18446744073709551616) / y = q0 at *
  generalize (X / 18446744073709551616 % y * 18446744073709551616 + X % 18446744073709551616) % y = r at *
  repeat' (first|refine vs (k:=?_)|refine ps (k:=?_)|((first|refine st hs (k:=?_)|refine stA hs (k:=?_));intro w hs)|((first|refine al hs (k:=?_)|refine bx hs (k:=?_)|refine bs hs (k:=?_));intro b w hz hs)|refine qRg ?_|refine Nx.h ?_|refine qBo ?_|refine qCt ?_|refine qCf ?_|((with_reducible apply xs_guard);exact rfl;exact rfl;intro c hc;(fail_if_success have:true=c:=hc);(fail_if_success have:false=c:=hc);cases c)|(refine xc_if rfl (fun hc=>?_) (fun hc=>?_))|(refine xc_cond rfl (fun hc=>?_) (fun hc=>?_)))
  · first | refine rt (hq := ?_) | refine rt' (hq := ?_)
    refine ⟨?_, hs.only0 rfl⟩
    clear hs
    have : x = X := by omega
    subst this
    refine divV_ok (by omega) (agg_ok ?_ ?_) d2.symm
    · simp only [wrap_i64]; omega
    · omega
  · (with_reducible apply xs_call); exact rfl; exact rfl; exact add64_ret _ _ _ (by omega) (by omega) (by omega) (by omega) _
    rintro v w' ⟨rfl, rfl⟩
    repeat' (first|refine vs (k:=?_)|refine ps (k:=?_)|((first|refine st hs (k:=?_)|refine stA hs (k:=?_));intro w hs)|((first|refine al hs (k:=?_)|refine bx hs (k:=?_)|refine bs hs (k:=?_));intro b w hz hs)|refine qRg ?_|refine Nx.h ?_|refine qBo ?_|refine qCt ?_|refine qCf ?_|((with_reducible apply xs_guard);exact rfl;exact rfl;intro c hc;(fail_if_success have:true=c:=hc);(fail_if_success have:false=c:=hc);cases c)|(refine xc_if rfl (fun hc=>?_) (fun hc=>?_))|(refine xc_cond rfl (fun hc=>?_) (fun hc=>?_)))
    (with_reducible apply xs_call); exact rfl; exact rfl; exact flip_of (agg_sgn (s := X / y + 1) (by omega) (by omega) (by simp only [wrap_u64]; omega) (by omega)) (sgn_in (by omega) (by omega)) _
    rintro v w' ⟨rfl, ho⟩; replace hs := hs.call0 ho
    repeat' (first|refine vs (k:=?_)|refine ps (k:=?_)|((first|refine st hs (k:=?_)|refine stA hs (k:=?_));intro w hs)|((first|refine al hs (k:=?_)|refine bx hs (k:=?_)|refine bs hs (k:=?_));intro b w hz hs)|refine qRg ?_|refine Nx.h ?_|refine qBo ?_|refine qCt ?_|refine qCf ?_|((with_reducible apply xs_guard);exact rfl;exact rfl;intro c hc;(fail_if_success have:true=c:=hc);(fail_if_success have:false=c:=hc);cases c)|(refine xc_if rfl (fun hc=>?_) (fun hc=>?_))|(refine xc_cond rfl (fun hc=>?_) (fun hc=>?_)))
    first | refine rt (hq := ?_) | refine rt' (hq := ?_)
    refine ⟨?_, hs.only0 rfl⟩
    clear hs
    have : x = -X := by omega
    obtain ⟨n1, n2⟩ := (neg_div (show 0 < y by omega) rfl d2).1 (by omega)
    subst this
    refine divV_ok (by omega) ?_ ?_
    · rw [n1]
      refine congrArg wv ?_
      unfold negW sgn
      repeat' split
      all_goals omega
    · rw [n2, wrap_u64]; omega
  · (with_reducible apply xs_call); exact rfl; exact rfl; exact flip_of (agg_sgn (s := X / y) (by omega) (by omega) (by omega) (by omega)) (sgn_in (by omega) (by omega)) _
    rintro v w' ⟨rfl, ho⟩; replace hs := hs.call0 ho
    repeat' (first|refine vs (k:=?_)|refine ps (k:=?_)|((first|refine st hs (k:=?_)|refine stA hs (k:=?_));intro w hs)|((first|refine al hs (k:=?_)|refine bx hs (k:=?_)|refine bs hs (k:=?_));intro b w hz hs)|refine qRg ?_|refine Nx.h ?_|refine qBo ?_|refine qCt ?_|refine qCf ?_|((with_reducible apply xs_guard);exact rfl;exact rfl;intro c hc;(fail_if_success have:true=c:=hc);(fail_if_success have:false=c:=hc);cases c)|(refine xc_if rfl (fun hc=>?_) (fun hc=>?_))|(refine xc_cond rfl (fun hc=>?_) (fun hc=>?_)))
    first | refine rt (hq := ?_) | refine rt' (hq := ?_)
    refine ⟨?_, hs.only0 rfl⟩
    clear hs
    have : x = -X := by omega
    obtain ⟨n1, n2⟩ := (neg_div (show 0 < y by omega) rfl d2).2 (by omega)
    subst this
    refine divV_ok (by omega) ?_ ?_
    · rw [n1]
      refine congrArg wv ?_
      unfold negW sgn
      repeat' split
      all_goals omega
    · rw [n2]; omega
end Go.Proofs.YtegoaabjccignaaGreatDoorX

namespace Go.Proofs.YtegoaabjccignaaGreatDoorX
open Go Go.RowKit
attribute [local irreducible] XS XC XA thenE blockE retE loopE loopS cutB cutN doneE SE
def In64 (x : Int) : Prop := -9223372036854775808 ≤ x ∧ x < 9223372036854775808
instance (x : Int) : Decidable (In64 x) := by unfold In64; infer_instance
def smallV (x : Int) : Value := if In64 x then .tuple #[.int .i64 x, .bool true] else .tuple #[.int .i64 0, .bool false]
set_option maxHeartbeats 1000000 in
theorem small_ret (x : Int) (hx : InW x) (w0 : World) : Ret Tryz.prog 64 #[wv x] w0 fun v w' => v = smallV x ∧ Only [] w0 w' := by
  have hx' := hx
  obtain ⟨hx1, hx2⟩ := hx
  have hs := St.nil w0
  refine ret_of_xc Tryz.func64 (by kernel_rfl) rfl Tryz.ntmps64 rfl rfl rfl ?_
  repeat' (first|refine vs (k:=?_)|refine ps (k:=?_)|((first|refine st hs (k:=?_)|refine stA hs (k:=?_));intro w hs)|((first|refine al hs (k:=?_)|refine bx hs (k:=?_)|refine bs hs (k:=?_));intro b w hz hs)|refine qRg ?_|refine Nx.h ?_|refine qBo ?_|refine qCt ?_|refine qCf ?_|((with_reducible apply xs_guard);exact rfl;exact rfl;intro c hc;(fail_if_success have:true=c:=hc);(fail_if_success have:false=c:=hc);cases c)|(refine xc_if rfl (fun hc=>?_) (fun hc=>?_))|(refine xc_cond rfl (fun hc=>?_) (fun hc=>?_)))
  refine dr [] hs (k := ?_); intro hX w hs
  refine tk 0 hX (k := ?_)
  refine tk 2 hX (k := ?_)
  refine dt 1 hX (k := ?_)
  (with_reducible apply xs_call); exact rfl; exact rfl; exact of_ret _ (by rw [wrap_i64]; omega) (by rw [wrap_i64]; omega) _
  rintro v w' ⟨rfl, ho⟩; replace hs := hs.call0 ho; repeat' (first|refine vs (k:=?_)|refine ps (k:=?_)|((first|refine st hs (k:=?_)|refine stA hs (k:=?_));intro w hs)|((first|refine al hs (k:=?_)|refine bx hs (k:=?_)|refine bs hs (k:=?_));intro b w hz hs)|refine qRg ?_|refine Nx.h ?_|refine qBo ?_|refine qCt ?_|refine qCf ?_|((with_reducible apply xs_guard);exact rfl;exact rfl;intro c hc;(fail_if_success have:true=c:=hc);(fail_if_success have:false=c:=hc);cases c)|(refine xc_if rfl (fun hc=>?_) (fun hc=>?_))|(refine xc_cond rfl (fun hc=>?_) (fun hc=>?_)))
  refine dn (k := ?_)
  refine tk 3 hX (k := ?_)
  refine en (k := ?_)
  repeat' (first|refine vs (k:=?_)|refine ps (k:=?_)|((first|refine st hs (k:=?_)|refine stA hs (k:=?_));intro w hs)|((first|refine al hs (k:=?_)|refine bx hs (k:=?_)|refine bs hs (k:=?_));intro b w hz hs)|refine qRg ?_|refine Nx.h ?_|refine qBo ?_|refine qCt ?_|refine qCf ?_|((with_reducible apply xs_guard);exact rfl;exact rfl;intro c hc;(fail_if_success have:true=c:=hc);(fail_if_success have:false=c:=hc);cases c)|(refine xc_if rfl (fun hc=>?_) (fun hc=>?_))|(refine xc_cond rfl (fun hc=>?_) (fun hc=>?_)))
  · first | refine rt (hq := ?_) | refine rt' (hq := ?_)
    refine ⟨?_, hs.only0 rfl⟩
    clear hs
    have h1 : ¬ In64 x := by
      rintro ⟨h1, h2⟩
      simp only [wrap_i64, cellEq, Bool.not_eq_true', Bool.and_eq_false_iff, beq_eq_false_iff_ne, ne_eq] at hc
      omega
    unfold smallV packed
    rw [if_neg h1]
  · first | refine rt (hq := ?_) | refine rt' (hq := ?_)
    refine ⟨?_, hs.only0 rfl⟩
    clear hs
    have h1 : IntKind.i64.wrap (x % 18446744073709551616) = x ∧ In64 x := by
      simp only [wrap_i64, cellEq, Bool.not_eq_false', Bool.and_eq_true, beq_iff_eq, Bool.not_not, not_true, Bool.not_eq_true', Bool.not_eq_true] at hc ⊢
      unfold In64
      constructor <;> omega
    unfold smallV packed
    rw [if_pos h1.2, h1.1]
end Go.Proofs.YtegoaabjccignaaGreatDoorX

namespace Go.Proofs.YtegoaabjccignaaGreatDoorX
open Go Go.RowKit
section
variable {P : Program} {ops : Array Oper} {E : List Nat} {H : List Ent} {QE : Exit → Env → World → Prop} {n : Nat} {env : Env} {w wb : World} {D : Ctx} {fuel : Nat} {listed : Array Bool}
theorem xa_core (i : Nat) {o : Oper} (hX : XH ops E QE n) (hi : ops[i]? = some o) (h : XS P ops (doneE P ops E H QE n fuel (listed.setIfInBounds i true)) n [o] env w) (a : Act) (hf : Fits n env a) :
    wpOp P ops (lift n QE) i (fun a' w' => SE E H (listed.setIfInBounds i true) w' ∧ wpAnyL P ops (lift n QE) (SE E H) fuel (listed.setIfInBounds i true) a' w') a w := by
  have hd : dOk n o = true := List.all_eq_true.1 hX.dst o (by have := Array.mem_of_getElem? hi; simpa using this)
  have h := h (by simp [hd]) a hf
  have hp : ∀ c a w, lift n (doneE P ops E H QE n fuel (listed.setIfInBounds i true)) (.panic c) a w → lift n QE (.panic c) a w := fun c a w ⟨env, hf, hq⟩ => ⟨env, hf, hq⟩
  have ho : LetsOut (lift n (doneE P ops E H QE n fuel (listed.setIfInBounds i true))) → LetsOut (lift n QE) := fun ⟨a, w, env, hf, hq⟩ => hq.elim
  unfold wpList at h
  unfold wpOp
  simp only [hi]
  split
  · rename_i hw
    rw [if_pos hw] at h
    rcases h with h | ⟨h1, h2⟩
    · refine .inl (upon_weaken hp ho (Oper.wp_mono (fun a' w' hn => ?_) h))
      simp only [wpList] at hn
      obtain ⟨env', hf', hS, hx⟩ := hn
      exact ⟨hS, hx a' hf'⟩
    · exact .inr ⟨h1, ho h2⟩
  · rename_i hw
    rw [if_neg hw] at h
    simp only [wpList] at h
    obtain ⟨env', hf', hS, hx⟩ := h
    exact ⟨hS, hx _ hf'⟩
theorem xa_do2 (i j : Nat) {d d' : Option Nat} {op op' : Op} {ty ty' : Nat} {pos pos' : String} {aft aft' : Array Edge} {g g' : Option (Nat × Bool)} (hX : XH ops E QE n) (hi : ops[i]? = some ⟨d, op, ty, pos, aft, g⟩ := by exact rfl) (hj : ops[j]? = some ⟨d', op', ty', pos', aft', g'⟩ := by exact rfl)
    (hr : Region.ready .any ops listed = [i, j] := by kernel_rfl) (h1 : XS P ops (doneE P ops E H QE n fuel (listed.setIfInBounds i true)) n [⟨d, op, ty, pos, aft, g⟩] env w) (h2 : XS P ops (doneE P ops E H QE n fuel (listed.setIfInBounds j true)) n [⟨d', op', ty', pos', aft', g'⟩] env w) : XA P ops E H QE n (fuel + 1) listed env w := by
  intro a hf
  refine ⟨fun h0 => (by rw [h0] at hr; cases hr), fun k hk => ?_⟩
  rw [hr] at hk
  simp only [List.mem_cons, List.not_mem_nil, or_false] at hk
  rcases hk with rfl | rfl
  · exact xa_core _ hX hi h1 a hf
  · exact xa_core _ hX hj h2 a hf
theorem xa_do3 (i j l : Nat) {d d' d'' : Option Nat} {op op' op'' : Op} {ty ty' ty'' : Nat} {pos pos' pos'' : String} {aft aft' aft'' : Array Edge} {g g' g'' : Option (Nat × Bool)} (hX : XH ops E QE n) (hi : ops[i]? = some ⟨d, op, ty, pos, aft, g⟩ := by exact rfl) (hj : ops[j]? = some ⟨d', op', ty', pos', aft', g'⟩ := by exact rfl) (hl : ops[l]? = some ⟨d'', op'', ty'', pos'', aft'', g''⟩ := by exact rfl)
    (hr : Region.ready .any ops listed = [i, j, l] := by kernel_rfl) (h1 : XS P ops (doneE P ops E H QE n fuel (listed.setIfInBounds i true)) n [⟨d, op, ty, pos, aft, g⟩] env w) (h2 : XS P ops (doneE P ops E H QE n fuel (listed.setIfInBounds j true)) n [⟨d', op', ty', pos', aft', g'⟩] env w)
    (h3 : XS P ops (doneE P ops E H QE n fuel (listed.setIfInBounds l true)) n [⟨d'', op'', ty'', pos'', aft'', g''⟩] env w) : XA P ops E H QE n (fuel + 1) listed env w := by
  intro a hf
  refine ⟨fun h0 => (by rw [h0] at hr; cases hr), fun k hk => ?_⟩
  rw [hr] at hk
  simp only [List.mem_cons, List.not_mem_nil, or_false] at hk
  rcases hk with rfl | rfl | rfl
  · exact xa_core _ hX hi h1 a hf
  · exact xa_core _ hX hj h2 a hf
  · exact xa_core _ hX hl h3 a hf
theorem St.perm {H' : List Ent} (hs : St wb D H w) (h : H'.Perm H) : St wb D H' w :=
  { hs with
    at_ := fun e he => hs.at_ e (h.mem_iff.1 he)
    nd := (h.map _).nodup_iff.2 hs.nd
    new := fun p hp => hs.new p ((h.map _).mem_iff.1 hp)
    frame := fun k h1 h2 h3 => hs.frame k h1 h2 (fun h4 => h3 ((h.map _).mem_iff.2 h4))
    ap := fun e he h4 => hs.ap e he ((h.map _).mem_iff.1 h4) }
end
section
variable {ops : Array Oper} {QE : Exit → Env → World → Prop} {n : Nat} {rest : List Oper} {env : Env} {w wb : World} {d : Option Nat} {ty : Nat} {pos : String} {aft : Array Edge} {g : Option (Nat × Bool)}
theorem lh2 {t b off : Nat} {x : Operand} {cs : List Value} {E : TypeId} {fr : Nat × Nat} {v0 v1 : Value} (hb : w.heap[b]? = some (.cells cs.toArray E fr)) (h0 : cs[off]? = some v0) (h1 : cs[off + 1]? = some v1) (hw : wantedE ops env g = true := by exact rfl) (ht : look t tab.tks = some (true, 2) := by exact rfl)
    (hp : ev env x = .pointer (some ⟨b, off, none⟩) := by exact rfl)
    (k : XS Tryz.prog ops QE n rest (updO env d (.agg #[v0, v1])) w) : XS Tryz.prog ops QE n (⟨d, .load t x, ty, pos, aft, g⟩ :: rest) env w :=
  have hc : Pick cs off 2 [v0, v1] := .cons h0 (.cons h1 .nil)
  xs_val hw (by simp [execOp, hp, Instr.loadAt, Instr.sureAddr, Sem.run_bind, run_loadVar_agg (tabOk.tk ht) hb hc.le, hc.eq.2]) k
end
end Go.Proofs.YtegoaabjccignaaGreatDoorX

namespace Go.Proofs.YtegoaabjccignaaGreatDoorX
open Go Go.RowKit
section
variable {P : Program} {ops : Array Oper} {E : List Nat} {H HH : List Ent} {QE : Exit → Env → World → Prop} {n : Nat} {env : Env} {w wb : World} {D : Ctx} {fuel : Nat} {T : Tab}
theorem St.adopt {b : Nat} {o : Obj} {w' : World} (hs : St wb D H w) (ho : Only [] w w') (hb : w'.heap[b]? = some o) (hz : w.heap.size ≤ b) : St wb D ((b, o, true) :: H) w' := by
  have h := hs.call0 ho
  have hlt : ∀ {k : Nat} {o' : Obj}, w.heap[k]? = some o' → k ≠ b := fun hk e => by have := lt_of_block hk; omega
  refine ⟨fun e he => ?_, ?_, fun p hp hq => ?_, h.os, h.tape, h.output, h.size, fun k hk hd hm => ?_, h.ro, fun e he hm => ?_⟩
  · rcases List.mem_cons.1 he with rfl | he
    · exact hb
    · exact h.at_ e he
  · rw [List.map_cons, List.nodup_cons]
    refine ⟨fun hm => ?_, h.nd⟩
    obtain ⟨e, he, h1⟩ := List.mem_map.1 hm
    exact hlt (hs.at_ e he) h1
  · rw [List.map_cons, List.mem_cons] at hp
    rcases hp with rfl | hp
    · exact Nat.le_trans hs.size hz
    · exact h.new p hp hq
  · rw [List.map_cons, List.mem_cons, not_or] at hm
    exact h.frame k hk hd hm.2
  · rw [List.map_cons, List.mem_cons] at hm
    rcases hm with hm | hm
    · exact hlt (hs.ro e he) hm
    · exact h.ap e he hm
def Lasts (I : World → Prop) : Prop := ∀ w w', Only [] w w' → I w → I w'
def PendC (wb : World) (D : Ctx) (H : List Ent) (o : Obj) (Y : Nat → Value) : Bool → Value → World → Prop
  | false, _, w => St wb D H w
  | true, X, w => ∃ b, X = Y b ∧ St wb D ((b, o, true) :: H) w
structure Pend (wb : World) (D : Ctx) (H : List Ent) (o : Obj) (Y : Nat → Value) (I : World → Prop) (f : Bool) (X : Value) (w : World) : Prop where
  core : PendC wb D H o Y f X w
  inv : I w
  lasts : Lasts I
theorem PendC.st {o : Obj} {Y : Nat → Value} : ∀ {f : Bool} {X : Value}, PendC wb D H o Y f X w → St wb D H w
  | false, _, h => h
  | true, _, ⟨_, _, h⟩ => h.forgetNew
theorem Pend.st {o : Obj} {Y : Nat → Value} {I : World → Prop} {f : Bool} {X : Value} (h : Pend wb D H o Y I f X w) : St wb D H w := h.core.st
theorem PendC.only {o : Obj} {Y : Nat → Value} {w' : World} (ho : Only [] w w') : ∀ {f : Bool} {X : Value}, PendC wb D H o Y f X w → PendC wb D H o Y f X w'
  | false, _, h => St.call0 h ho
  | true, _, ⟨b, e, h⟩ => ⟨b, e, h.call0 ho⟩
theorem Pend.only {o : Obj} {Y : Nat → Value} {I : World → Prop} {f : Bool} {X : Value} {w' : World} (h : Pend wb D H o Y I f X w) (ho : Only [] w w') : Pend wb D H o Y I f X w' := ⟨h.core.only ho, h.lasts _ _ ho h.inv, h.lasts⟩
theorem PendC.call {o : Obj} {Y : Nat → Value} {w' : World} {F : List Nat} (ho : Only F w w') (hl : ∀ k ∈ F, k < wb.heap.size) (hF : ∀ k ∈ F, k ∉ H.map (·.1)) (hR : ∀ k ∈ F, k ∉ D.ro.map (·.1)) : ∀ {f : Bool} {X : Value}, PendC wb D H o Y f X w → PendC wb ⟨F ++ D.dirty, D.ro⟩ H o Y f X w'
  | false, _, h => St.call h ho hF hR
  | true, _, ⟨b, e, h⟩ => ⟨b, e, h.call ho (fun k hk hm => by
      simp only [List.map_cons, List.mem_cons] at hm
      rcases hm with rfl | hm
      · have := h.new (k, true) (by simp) rfl
        have := hl k hk
        simp only at *
        omega
      · exact hF k hk hm) hR⟩
theorem Pend.adopt {o o' : Obj} {Y : Nat → Value} {I : World → Prop} {w' : World} {b' : Nat} (ho : Only [] w w') (hb : w'.heap[b']? = some o') (hz : w.heap.size ≤ b') : ∀ {f : Bool} {X : Value}, Pend wb D H o Y I f X w → Pend wb D ((b', o', true) :: H) o Y I f X w'
  | false, _, ⟨h, h1, h2⟩ => ⟨St.adopt h ho hb hz, h2 _ _ ho h1, h2⟩
  | true, _, ⟨⟨b, e, h⟩, h1, h2⟩ => ⟨⟨b, e, (h.adopt ho hb hz).perm (List.Perm.swap _ _ _)⟩, h2 _ _ ho h1, h2⟩
theorem more_fuel {Q : Exit → Act → World → Prop} {S : Array Bool → World → Prop} : ∀ (fuel : Nat) (listed : Array Bool) (a : Act) (w : World), wpAnyL P ops Q S fuel listed a w → wpAnyL P ops Q S (fuel + 1) listed a w
  | 0, _, _, _, h => ⟨fun _ => h.2, fun i hi => by rw [h.1] at hi; cases hi⟩
  | fuel + 1, _, _, _, h => ⟨h.1, fun i hi => wpOp_mono (fun a' w' h' => ⟨h'.1, more_fuel fuel _ a' w' h'.2⟩) (h.2 i hi)⟩
def fl (f : Bool) : Nat := bif f then 0 else 1
def Makes (P : Program) (ops : Array Oper) (n : Nat) (o : Obj) (Y : Nat → Value) (d : Nat) (oa : Oper) (g : Value → Env) : Prop :=
  ∀ (QE : Exit → Env → World → Prop) (X : Value) (w : World), (∀ b w', Only [] w w' → w'.heap[b]? = some o → w.heap.size ≤ b → QE .normal (upd (g X) d (Y b)) w') → XS P ops QE n [oa] (g X) w
theorem makes_alloc (hT : TabOk P T) {t d ty : Nat} {pos : String} {aft : Array Edge} {cs : List Value} {g : Value → Env} (hz : look t T.zs = some cs) :
    Makes P ops n (.cells cs.toArray t (0, 0)) (fun b => .pointer (some ⟨b, 0, none⟩)) d ⟨some d, .alloc t, ty, pos, aft, none⟩ g := fun QE X w k =>
  xs_alloc hT hz rfl (St.nil w) fun b w' _ hs' => XS.nil (k b w' (hs'.only0 rfl) (hs'.get At.head) (hs'.new (b, true) (by simp) rfl))
theorem makes_slice (hT : TabOk P T) {t e size bytes len d ty : Nat} {pos : String} {aft : Array Edge} {parts : Array (Nat × Operand)} {zs cs : List Value} {g : Value → Env} (hsl : look t T.sls = some (e, size, bytes)) (hz : look e T.zs = some zs) (hzl : Nat.beq zs.length size = true) (hsm : Nat.ble (len * size) 16777216 = true) (hps : Nat.beq (len * size) 0 = false)
    (hb : ∀ X, Bld (g X) (rowPl len size) (rowZ zs (len * size)) parts.toList cs) :
    Makes P ops n (.cells cs.toArray e (0, 0)) (fun b => .slice (some ⟨b, 0, none⟩) len len) d ⟨some d, .buildSlice t len parts, ty, pos, aft, none⟩ g := fun QE X w k =>
  xs_buildSlice hT rfl hsl hz hzl hsm hps (hb X) (St.nil w) fun b w' _ hs' => XS.nil (k b w' (hs'.only0 rfl) (hs'.get At.head) (hs'.new (b, true) (by simp) rfl))
theorem pend_made {a d : Nat} {oa : Oper} {o : Obj} {Y : Nat → Value} {I : World → Prop} {m : Nat} {listed : Array Bool} {g : Value → Env} {X Z : Value} (hM : Makes P ops n o Y d oa g) (hp : Pend wb D H o Y I false Z w)
    (hS : ∀ w', St wb D H w' → SE E HH (listed.setIfInBounds a true) w')
    (k : ∀ b w', I w' → St wb D ((b, o, true) :: H) w' → XA P ops E HH QE n m (listed.setIfInBounds a true) (upd (g X) d (Y b)) w') :
    XS P ops (doneE P ops E HH QE n m (listed.setIfInBounds a true)) n [oa] (g X) w :=
  hM _ X w fun b w' ho hb hz => ⟨hS _ (St.call0 hp.core ho), k b w' (hp.lasts _ _ ho hp.inv) (St.adopt hp.core ho hb hz)⟩
theorem xa_pend (c a : Nat) {d ta : Nat} {opa : Op} {posa : String} {afta : Array Edge} {dc : Option Nat} {opc : Op} {tyc : Nat} {posc : String} {aftc : Array Edge} {gc : Option (Nat × Bool)} {o : Obj} {Y : Nat → Value} {I : World → Prop} {g : Value → Env} {L : Bool → Array Bool} {f : Bool} {X : Value}
    (hX : XH ops E QE n) (hp : Pend wb D H o Y I f X w) (ha : ops[a]? = some ⟨some d, opa, ta, posa, afta, none⟩) (hc : ops[c]? = some ⟨dc, opc, tyc, posc, aftc, gc⟩)
    (hM : Makes P ops n o Y d ⟨some d, opa, ta, posa, afta, none⟩ g)
    (hL : (L false).setIfInBounds a true = L true) (hr1 : Region.ready .any ops (L true) = [c]) (hr0 : (Region.ready .any ops (L false)).all (fun i => Nat.beq i c || Nat.beq i a) = true) (hr0' : (Region.ready .any ops (L false)).isEmpty = false)
    (hg : ∀ X Y, upd (g X) d Y = g Y) (hS : ∀ w', St wb D H w' → SE E HH (L true) w')
    (step : ∀ f X w, Pend wb D H o Y I f X w → XS P ops (doneE P ops E HH QE n (fl f + fuel) ((L f).setIfInBounds c true)) n [⟨dc, opc, tyc, posc, aftc, gc⟩] (g X) w) :
    XA P ops E HH QE n (fl f + (fuel + 1)) (L f) (g X) w := by
  have h1 : ∀ X w, Pend wb D H o Y I true X w → XA P ops E HH QE n (fuel + 1) (L true) (g X) w := fun X w hp => by
    have := step true X w hp
    simp only [fl, cond_true, Nat.zero_add] at this
    exact xa_do c hX hc hr1 this
  cases f with
  | true => simpa [fl] using h1 X w hp
  | false =>
    have e1 : fl false + (fuel + 1) = (fuel + 1) + 1 := by simp [fl]; omega
    rw [e1]
    intro act hf
    refine ⟨fun h0 => (by rw [h0] at hr0'; cases hr0'), fun i hi => ?_⟩
    have hi' := List.all_eq_true.1 hr0 i hi
    simp only [Bool.or_eq_true] at hi'
    rcases hi' with hi' | hi'
    · obtain rfl : i = c := Nat.eq_of_beq_eq_true hi'
      have h2 := step false X w hp
      have e2 : fl false + fuel = fuel + 1 := by simp [fl]; omega
      rw [e2] at h2
      exact xa_core i hX hc h2 act hf
    · obtain rfl : i = a := Nat.eq_of_beq_eq_true hi'
      have h2 : XS P ops (doneE P ops E HH QE n (fuel + 1) ((L false).setIfInBounds i true)) n [⟨some d, opa, ta, posa, afta, none⟩] (g X) w := by
        refine pend_made hM hp (by rw [hL]; exact hS) fun b w' hI hs' => ?_
        rw [hL, hg]
        exact h1 _ w' ⟨⟨b, rfl, hs'⟩, hI, hp.lasts⟩
      exact xa_core i hX ha h2 act hf
theorem xa_pendE (a : Nat) {d ta : Nat} {opa : Op} {posa : String} {afta : Array Edge} {o : Obj} {Y : Nat → Value} {I : World → Prop} {g : Value → Env} {L : Bool → Array Bool} {f : Bool} {X : Value}
    (hX : XH ops E QE n) (hp : Pend wb D H o Y I f X w) (ha : ops[a]? = some ⟨some d, opa, ta, posa, afta, none⟩)
    (hM : Makes P ops n o Y d ⟨some d, opa, ta, posa, afta, none⟩ g)
    (hL : (L false).setIfInBounds a true = L true) (hr0 : Region.ready .any ops (L false) = [a])
    (hg : ∀ X Y, upd (g X) d Y = g Y) (hS : ∀ w', St wb D H w' → SE E HH (L true) w')
    (k : ∀ b w', I w' → St wb D ((b, o, true) :: H) w' → XA P ops E HH QE n fuel (L true) (g (Y b)) w') :
    XA P ops E HH QE n (fl f + fuel) (L f) (g X) w := by
  cases f with
  | true =>
    obtain ⟨⟨b, rfl, hs⟩, hI, _⟩ := hp
    have := k b w hI hs
    simpa [fl] using this
  | false =>
    have e1 : fl false + fuel = fuel + 1 := by simp [fl]; omega
    rw [e1]
    refine xa_do a hX ha hr0 ?_
    refine pend_made hM hp (by rw [hL]; exact hS) fun b w' hI hs' => ?_
    rw [hL, hg]
    exact k b w' hI hs'
theorem xa_pend0 (a d : Nat) (o : Obj) (Y : Nat → Value) {listed : Array Bool} (hs : St wb D H w) (hl : listed.setIfInBounds a false = listed)
    (k : ∀ f X w, Pend wb D H o Y (fun _ => True) f X w → XA P ops E HH QE n (fl f + fuel) (listed.setIfInBounds a f) (upd env d X) w) : XA P ops E HH QE n (fuel + 1) listed env w := by
  have h := k false (env d) w ⟨hs, trivial, fun _ _ _ _ => trivial⟩
  have e1 : fl false + fuel = fuel + 1 := by simp [fl]; omega
  have e2 : upd env d (env d) = env := funext fun i => by
    by_cases e : i = d
    · subst e; rw [upd_same]
    · rw [upd_ne _ _ e]
  rwa [e1, hl, e2] at h
end
section
variable {ops : Array Oper} {E : List Nat} {H HH : List Ent} {QE : Exit → Env → World → Prop} {n : Nat} {env : Env} {w wb : World} {D : Ctx} {fuel : Nat}
theorem pgg_base {d : Nat} {X Y : Value} : upd (upd env d X) d Y = upd env d Y := funext fun i => by
  by_cases h : i = d
  · subst h; rw [upd_same, upd_same]
  · rw [upd_ne _ _ h, upd_ne _ _ h, upd_ne _ _ h]
theorem pgg_step {d t : Nat} {v Y : Value} {e1 e2 : Env} (h : upd e1 d Y = e2) (hne : Nat.beq t d = false) : upd (upd e1 t v) d Y = upd e2 t v := funext fun i => by
  have hne : t ≠ d := fun e => by rw [e, Nat.beq_refl] at hne; cases hne
  have h' := congrFun h i
  by_cases hi : i = d
  · subst hi
    rw [upd_same] at h' ⊢
    rw [upd_ne _ _ (Ne.symm hne), ← h']
  · rw [upd_ne _ _ hi] at h' ⊢
    by_cases ht : i = t
    · subst ht; rw [upd_same, upd_same]
    · rw [upd_ne _ _ ht, upd_ne _ _ ht, h']
theorem pd0 (a d : Nat) {cs : List Value} {t ty : Nat} {pos : String} {aft : Array Edge} {listed : Array Bool} (hs : St wb D H w) (ha : ops[a]? = some ⟨some d, .alloc t, ty, pos, aft, none⟩ := by exact rfl) (hz : look t tab.zs = some cs := by exact rfl) (hl : listed.setIfInBounds a false = listed := by kernel_rfl)
    (k : ∀ f X w, Pend wb D H (.cells cs.toArray t (0, 0)) (fun b => .pointer (some ⟨b, 0, none⟩)) (fun _ => True) f X w → XA Tryz.prog ops E HH QE n (fl f + fuel) (listed.setIfInBounds a f) (upd env d X) w) : XA Tryz.prog ops E HH QE n (fuel + 1) listed env w := xa_pend0 a d _ _ hs hl k
theorem pd0S (a d : Nat) (cs : List Value) {t e size bytes len ty : Nat} {parts : Array (Nat × Operand)} {pos : String} {aft : Array Edge} {listed : Array Bool} (hs : St wb D H w) (ha : ops[a]? = some ⟨some d, .buildSlice t len parts, ty, pos, aft, none⟩ := by exact rfl) (hsl : look t tab.sls = some (e, size, bytes) := by exact rfl) (hl : listed.setIfInBounds a false = listed := by kernel_rfl)
    (k : ∀ f X w, Pend wb D H (.cells cs.toArray e (0, 0)) (fun b => .slice (some ⟨b, 0, none⟩) len len) (fun _ => True) f X w → XA Tryz.prog ops E HH QE n (fl f + fuel) (listed.setIfInBounds a f) (upd env d X) w) : XA Tryz.prog ops E HH QE n (fuel + 1) listed env w := xa_pend0 a d _ _ hs hl k
theorem bsP {o : Obj} {Y : Nat → Value} {I : World → Prop} {f : Bool} {X : Value} {rest : List Oper} {d : Option Nat} {ty : Nat} {pos : String} {aft : Array Edge} {g : Option (Nat × Bool)} {t e size bytes len : Nat} {parts : Array (Nat × Operand)} {zs cs : List Value} (hp : Pend wb D H o Y I f X w) (hw : wantedE ops env g = true := by exact rfl) (hsl : look t tab.sls = some (e, size, bytes) := by exact rfl) (hz : look e tab.zs = some zs := by exact rfl) (hzl : Nat.beq zs.length size = true := by exact rfl) (hsm : Nat.ble (len * size) 16777216 = true := by exact rfl) (hps : Nat.beq (len * size) 0 = false := by exact rfl)
    (hb : Bld env (rowPl len size) (rowZ zs (len * size)) parts.toList cs := by (repeat (first | exact Bld.nil | (apply Bld.one; exact rfl; (conv => lhs; whnf); exact rfl; (repeat (first | exact PutL.nil | apply PutL.skip | apply PutL.cons))) | (apply Bld.agg; exact rfl; exact rfl; exact rfl; (repeat (first | exact PutL.nil | apply PutL.skip | apply PutL.cons))))))
    (k : ∀ b w', Only [] w w' → Pend wb D ((b, .cells cs.toArray e, true) :: H) o Y I f X w' → XS Tryz.prog ops QE n rest (updO env d (.slice (some ⟨b, 0, none⟩) len len)) w') : XS Tryz.prog ops QE n (⟨d, .buildSlice t len parts, ty, pos, aft, g⟩ :: rest) env w :=
  xs_buildSlice tabOk hw hsl hz hzl hsm hps hb (St.nil w) fun b w' _ h => k b w' (h.only0 rfl) (hp.adopt (h.only0 rfl) (h.get At.head) (h.new (b, true) (by simp) rfl))
theorem St.fresh (hs : St wb D H w) (hall : (H.all fun e => e.2.2) = true) {k : Nat} (hk : k < wb.heap.size) : k ∉ H.map (·.1) := fun hm => by
  obtain ⟨e, he, rfl⟩ := List.mem_map.1 hm
  have h1 := List.all_eq_true.1 hall e he
  have := hs.new (e.1, e.2.2) (List.mem_map.2 ⟨e, he, rfl⟩) h1
  simp only at this
  omega
theorem Pend.callN {o : Obj} {Y : Nat → Value} {I J : World → Prop} {w' : World} {F : List Nat} {f : Bool} {X : Value} (hp : Pend wb D H o Y I f X w) (ho : Only F w w') (hl : ∀ k ∈ F, k < wb.heap.size) (hall : (H.all fun e => e.2.2) = true) (hR : D.ro = []) (hJ : J w') (lJ : Lasts J) : Pend wb ⟨F ++ D.dirty, D.ro⟩ H o Y J f X w' :=
  ⟨hp.core.call ho hl (fun k hk => hp.st.fresh hall (hl k hk)) (by simp [hR]), hJ, lJ⟩
theorem St.callN {w' : World} {F : List Nat} (hs : St wb D H w) (ho : Only F w w') (hl : ∀ k ∈ F, k < wb.heap.size) (hall : (H.all fun e => e.2.2) = true) (hR : D.ro = []) : St wb ⟨F ++ D.dirty, D.ro⟩ H w' :=
  hs.call ho (fun k hk => hs.fresh hall (hl k hk)) (by simp [hR])
end
end Go.Proofs.YtegoaabjccignaaGreatDoorX

namespace Go.Proofs.YtegoaabjccignaaGreatDoorX
open Go Go.RowKit
attribute [local irreducible] XS XC XA thenE blockE retE loopE loopS cutB cutN doneE SE
structure Pt where
  t : Int
  r : Int
  w : Int
deriving DecidableEq
abbrev Pt.cells (p : Pt) : List Value := [.int .u64 p.t, .int .u32 p.r, .int .u32 p.w]
def pv (p : Pt) : Value := .agg #[.int .u64 p.t, .int .u32 p.r, .int .u32 p.w]
def U64 (x : Int) : Prop := 0 ≤ x ∧ x < 18446744073709551616
def U32 (x : Int) : Prop := 0 ≤ x ∧ x < 4294967296
instance (x : Int) : Decidable (U64 x) := by unfold U64; infer_instance
instance (x : Int) : Decidable (U32 x) := by unfold U32; infer_instance
def Pt.In (p : Pt) : Prop := U64 p.t ∧ U32 p.r ∧ U32 p.w
instance (p : Pt) : Decidable p.In := by unfold Pt.In; infer_instance
def sn (t u : Int) : Int := (t - u + 9223372036854775808) % 18446744073709551616 - 9223372036854775808
theorem sn_rng (t u : Int) : -9223372036854775808 ≤ sn t u ∧ sn t u < 9223372036854775808 := by unfold sn; omega
theorem sn_in (t u : Int) : In64 (sn t u) := sn_rng t u
def lat (t d : Int) : Int := (t + d) % 18446744073709551616
theorem lat_in (t d : Int) : U64 (lat t d) := by unfold lat U64; omega
theorem int_cong {k : IntKind} {a b : Int} (h : a = b) : packed [Value.int k a] = .int k b := by rw [h]; rfl
theorem since_ret (t u : Int) (w0 : World) : Ret Tryz.prog 84 #[.int .u64 t, .int .u64 u] w0 fun v w' => v = .int .i64 (sn t u) ∧ Only [] w0 w' := by
  have hs := St.nil w0
  refine ret_of_xc Tryz.func84 (by kernel_rfl) rfl Tryz.ntmps84 rfl rfl rfl ?_
  repeat' (first|refine vs (k:=?_)|refine ps (k:=?_)|((first|refine st hs (k:=?_)|refine stA hs (k:=?_));intro w hs)|((first|refine al hs (k:=?_)|refine bx hs (k:=?_)|refine bs hs (k:=?_));intro b w hz hs)|refine qRg ?_|refine Nx.h ?_|refine qBo ?_|refine qCt ?_|refine qCf ?_|((with_reducible apply xs_guard);exact rfl;exact rfl;intro c hc;(fail_if_success have:true=c:=hc);(fail_if_success have:false=c:=hc);cases c)|(refine xc_if rfl (fun hc=>?_) (fun hc=>?_))|(refine xc_cond rfl (fun hc=>?_) (fun hc=>?_)))
  first | refine rt (hq := ?_) | refine rt' (hq := ?_)
  refine ⟨int_cong ?_, hs.only0 rfl⟩
  simp only [wrap_u64, wrap_i64, sn]; omega
theorem vadd_ret (t d : Int) (w0 : World) : Ret Tryz.prog 65 #[.int .u64 t, .int .i64 d] w0 fun v w' => v = .int .u64 (lat t d) ∧ Only [] w0 w' := by
  have hs := St.nil w0
  refine ret_of_xc Tryz.func65 (by kernel_rfl) rfl Tryz.ntmps65 rfl rfl rfl ?_
  repeat' (first|refine vs (k:=?_)|refine ps (k:=?_)|((first|refine st hs (k:=?_)|refine stA hs (k:=?_));intro w hs)|((first|refine al hs (k:=?_)|refine bx hs (k:=?_)|refine bs hs (k:=?_));intro b w hz hs)|refine qRg ?_|refine Nx.h ?_|refine qBo ?_|refine qCt ?_|refine qCf ?_|((with_reducible apply xs_guard);exact rfl;exact rfl;intro c hc;(fail_if_success have:true=c:=hc);(fail_if_success have:false=c:=hc);cases c)|(refine xc_if rfl (fun hc=>?_) (fun hc=>?_))|(refine xc_cond rfl (fun hc=>?_) (fun hc=>?_)))
  first | refine rt (hq := ?_) | refine rt' (hq := ?_)
  refine ⟨int_cong ?_, hs.only0 rfl⟩
  simp only [wrap_u64, wrap_i64, lat]; omega
def mayW (w : Int) : Bool := decide (1 ≤ w) && decide (w ≤ 1048576)
theorem weight_ret (w : Int) (w0 : World) : Ret Tryz.prog 115 #[.int .u32 w] w0 fun v w' => v = .bool (mayW w) ∧ Only [] w0 w' := by
  have hs := St.nil w0
  refine ret_of_xc Tryz.func115 (by kernel_rfl) rfl Tryz.ntmps115 rfl rfl rfl ?_
  repeat' (first|refine vs (k:=?_)|refine ps (k:=?_)|((first|refine st hs (k:=?_)|refine stA hs (k:=?_));intro w hs)|((first|refine al hs (k:=?_)|refine bx hs (k:=?_)|refine bs hs (k:=?_));intro b w hz hs)|refine qRg ?_|refine Nx.h ?_|refine qBo ?_|refine qCt ?_|refine qCf ?_|((with_reducible apply xs_guard);exact rfl;exact rfl;intro c hc;(fail_if_success have:true=c:=hc);(fail_if_success have:false=c:=hc);cases c)|(refine xc_if rfl (fun hc=>?_) (fun hc=>?_))|(refine xc_cond rfl (fun hc=>?_) (fun hc=>?_)))
  all_goals (first | refine rt (hq := ?_) | refine rt' (hq := ?_))
  all_goals refine ⟨?_, hs.only0 rfl⟩
  · unfold mayW; have := of_decide_eq_false hc; simp only [packed]; congr 1; simp; omega
  · unfold mayW; have := of_decide_eq_true hc; simp only [packed]; congr 1; simp; omega
def Pt.right (p : Pt) : Bool := mayW p.w && decide (p.r < p.w)
theorem pright_ret (p : Pt) (w0 : World) : Ret Tryz.prog 85 #[pv p] w0 fun v w' => v = .bool p.right ∧ Only [] w0 w' := by
  have hs := St.nil w0
  refine ret_of_xc Tryz.func85 (by kernel_rfl) rfl Tryz.ntmps85 rfl rfl rfl ?_
  repeat' (first|refine vs (k:=?_)|refine ps (k:=?_)|((first|refine st hs (k:=?_)|refine stA hs (k:=?_));intro w hs)|((first|refine al hs (k:=?_)|refine bx hs (k:=?_)|refine bs hs (k:=?_));intro b w hz hs)|refine qRg ?_|refine Nx.h ?_|refine qBo ?_|refine qCt ?_|refine qCf ?_|((with_reducible apply xs_guard);exact rfl;exact rfl;intro c hc;(fail_if_success have:true=c:=hc);(fail_if_success have:false=c:=hc);cases c)|(refine xc_if rfl (fun hc=>?_) (fun hc=>?_))|(refine xc_cond rfl (fun hc=>?_) (fun hc=>?_)))
  (with_reducible apply xs_call); exact rfl; exact rfl; exact weight_ret _ _
  rintro v w' ⟨rfl, ho⟩; replace hs := hs.call0 ho; repeat' (first|refine vs (k:=?_)|refine ps (k:=?_)|((first|refine st hs (k:=?_)|refine stA hs (k:=?_));intro w hs)|((first|refine al hs (k:=?_)|refine bx hs (k:=?_)|refine bs hs (k:=?_));intro b w hz hs)|refine qRg ?_|refine Nx.h ?_|refine qBo ?_|refine qCt ?_|refine qCf ?_|((with_reducible apply xs_guard);exact rfl;exact rfl;intro c hc;(fail_if_success have:true=c:=hc);(fail_if_success have:false=c:=hc);cases c)|(refine xc_if rfl (fun hc=>?_) (fun hc=>?_))|(refine xc_cond rfl (fun hc=>?_) (fun hc=>?_)))
  all_goals (first | refine rt (hq := ?_) | refine rt' (hq := ?_))
  all_goals refine ⟨?_, hs.only0 rfl⟩
  · unfold Pt.right; rw [hc]; rfl
  · unfold Pt.right; rw [hc]; rfl
theorem mul_rng {w s W S : Int} (h0 : 0 ≤ w) (h1 : w ≤ W) (h2 : -S ≤ s) (h3 : s ≤ S) : -(W * S) ≤ w * s ∧ w * s ≤ W * S := by
  have hS : 0 ≤ S := by omega
  have a : w * S ≤ W * S := Int.mul_le_mul_of_nonneg_right h1 hS
  have b : w * s ≤ w * S := Int.mul_le_mul_of_nonneg_left h3 h0
  have c : w * (-S) ≤ w * s := Int.mul_le_mul_of_nonneg_left h2 h0
  rw [Int.mul_neg] at c
  omega
theorem u64_id {x : Int} (h : U64 x) : IntKind.u64.wrap x = x := by rw [wrap_u64]; unfold U64 at h; omega
theorem u64_of32 {x : Int} (h : U32 x) : IntKind.u64.wrap x = x := by rw [wrap_u64]; unfold U32 at h; omega
theorem wrap_u32 (n : Int) : IntKind.u32.wrap n = n % 4294967296 := by simp [IntKind.wrap, IntKind.signed, IntKind.bits]
theorem u32_id {x : Int} (h : U32 x) : IntKind.u32.wrap x = x := by rw [wrap_u32]; unfold U32 at h; omega
theorem ofU32_ret (x : Int) (h : U32 x) (w0 : World) : Ret Tryz.prog 134 #[.int .u64 (IntKind.u64.wrap x)] w0 fun v w' => v = wv x ∧ Only [] w0 w' := by
  rw [u64_of32 h]; unfold U32 at h; exact ofU_ret x (by omega) (by omega) w0
def dist (p : Pt) (base : Int) : Int := p.w * sn p.t base + p.r
theorem dist_rng {p : Pt} (h : p.In) (base : Int) : -(4294967296 * 9223372036854775808) ≤ p.w * sn p.t base ∧ p.w * sn p.t base ≤ 4294967296 * 9223372036854775808 :=
  mul_rng h.2.2.1 (Int.le_of_lt h.2.2.2) (by have := sn_rng p.t base; omega) (by have := sn_rng p.t base; omega)
theorem dist_in {p : Pt} (h : p.In) (base : Int) : InW (dist p base) := by
  have h1 := dist_rng h base
  obtain ⟨_, ⟨h2, h3⟩, _⟩ := h
  unfold dist InW; omega
theorem tell_in {x : Int} (h : InW x) : tellV x = .tuple #[wv x, .bool true] := if_pos h
theorem dist_ret (p : Pt) (base : Int) (h : p.In) (w0 : World) : Ret Tryz.prog 105 #[pv p, .int .u64 base] w0 fun v w' => v = wv (dist p base) ∧ Only [] w0 w' := by
  have h1 := dist_rng h base
  have h4 := dist_in h base
  obtain ⟨⟨ht0, ht1⟩, ⟨hr0, hr1⟩, hw0, hw1⟩ := h
  have h2 := sn_rng p.t base
  have hs := St.nil w0
  refine ret_of_xc Tryz.func105 (by kernel_rfl) rfl Tryz.ntmps105 rfl rfl rfl ?_
  repeat' (first|refine vs (k:=?_)|refine ps (k:=?_)|((first|refine st hs (k:=?_)|refine stA hs (k:=?_));intro w hs)|((first|refine al hs (k:=?_)|refine bx hs (k:=?_)|refine bs hs (k:=?_));intro b w hz hs)|refine qRg ?_|refine Nx.h ?_|refine qBo ?_|refine qCt ?_|refine qCf ?_|((with_reducible apply xs_guard);exact rfl;exact rfl;intro c hc;(fail_if_success have:true=c:=hc);(fail_if_success have:false=c:=hc);cases c)|(refine xc_if rfl (fun hc=>?_) (fun hc=>?_))|(refine xc_cond rfl (fun hc=>?_) (fun hc=>?_)))
  refine dr [] hs (k := ?_); intro hX w hs
  refine tk 0 hX (k := ?_)
  refine tk 1 hX (k := ?_)
  refine tk 2 hX (k := ?_)
  refine tk 4 hX (k := ?_)
  refine tk 5 hX (k := ?_)
  refine tk 6 hX (k := ?_)
  refine pd0 12 5 hs (k := ?_); intro f X w hp; have hs := hp.st
  apply xa_pend 3 12 (f := f) (X := X) hX hp; exact rfl; exact rfl; (first | (apply makes_alloc tabOk; exact rfl) | (apply makes_slice tabOk; exact rfl; exact rfl; exact rfl; exact rfl; exact rfl; (intro X; ((repeat (first | exact Bld.nil | (apply Bld.one; exact rfl; (conv => lhs; whnf); exact rfl; (repeat (first | exact PutL.nil | apply PutL.skip | apply PutL.cons))) | (apply Bld.agg; exact rfl; exact rfl; exact rfl; (repeat (first | exact PutL.nil | apply PutL.skip | apply PutL.cons))))))))); kernel_rfl; kernel_rfl; kernel_rfl; kernel_rfl; (intro X Y; (repeat (first | exact pgg_base | refine pgg_step ?_ (by exact rfl)))); (intro w' hs; ((first | exact se_hold hs.hold | exact se_hold (hold_sim hs.hold rfl) | exact se_hold (hold_sim hs.hold.tail rfl) | exact se_hold (hR hs rfl) | exact se_hold hs.hold.tail | exact se_hold hs.hold.tail.tail | exact se_hold hs.hold.tail.tail.tail | exact se_done rfl))); intro f X w hp; have hs := hp.st
  (with_reducible apply xs_call); exact rfl; exact rfl; exact ofU32_ret p.w ⟨hw0, hw1⟩ _
  rintro v w' ⟨rfl, ho⟩; replace hp := hp.only ho; replace hs := hp.st; repeat' (first|refine vs (k:=?_)|refine ps (k:=?_)|((first|refine st hs (k:=?_)|refine stA hs (k:=?_));intro w hs)|((first|refine al hs (k:=?_)|refine bx hs (k:=?_)|refine bs hs (k:=?_));intro b w hz hs)|refine qRg ?_|refine Nx.h ?_|refine qBo ?_|refine qCt ?_|refine qCf ?_|((with_reducible apply xs_guard);exact rfl;exact rfl;intro c hc;(fail_if_success have:true=c:=hc);(fail_if_success have:false=c:=hc);cases c)|(refine xc_if rfl (fun hc=>?_) (fun hc=>?_))|(refine xc_cond rfl (fun hc=>?_) (fun hc=>?_)))
  refine dn (k := ?_)
  apply xa_pend 7 12 (f := f) (X := X) hX hp; exact rfl; exact rfl; (first | (apply makes_alloc tabOk; exact rfl) | (apply makes_slice tabOk; exact rfl; exact rfl; exact rfl; exact rfl; exact rfl; (intro X; ((repeat (first | exact Bld.nil | (apply Bld.one; exact rfl; (conv => lhs; whnf); exact rfl; (repeat (first | exact PutL.nil | apply PutL.skip | apply PutL.cons))) | (apply Bld.agg; exact rfl; exact rfl; exact rfl; (repeat (first | exact PutL.nil | apply PutL.skip | apply PutL.cons))))))))); kernel_rfl; kernel_rfl; kernel_rfl; kernel_rfl; (intro X Y; (repeat (first | exact pgg_base | refine pgg_step ?_ (by exact rfl)))); (intro w' hs; ((first | exact se_hold hs.hold | exact se_hold (hold_sim hs.hold rfl) | exact se_hold (hold_sim hs.hold.tail rfl) | exact se_hold (hR hs rfl) | exact se_hold hs.hold.tail | exact se_hold hs.hold.tail.tail | exact se_hold hs.hold.tail.tail.tail | exact se_done rfl))); intro f X w hp; have hs := hp.st
  (with_reducible apply xs_call); exact rfl; exact rfl; exact since_ret p.t base _
  rintro v w' ⟨rfl, ho⟩; replace hp := hp.only ho; replace hs := hp.st; repeat' (first|refine vs (k:=?_)|refine ps (k:=?_)|((first|refine st hs (k:=?_)|refine stA hs (k:=?_));intro w hs)|((first|refine al hs (k:=?_)|refine bx hs (k:=?_)|refine bs hs (k:=?_));intro b w hz hs)|refine qRg ?_|refine Nx.h ?_|refine qBo ?_|refine qCt ?_|refine qCf ?_|((with_reducible apply xs_guard);exact rfl;exact rfl;intro c hc;(fail_if_success have:true=c:=hc);(fail_if_success have:false=c:=hc);cases c)|(refine xc_if rfl (fun hc=>?_) (fun hc=>?_))|(refine xc_cond rfl (fun hc=>?_) (fun hc=>?_)))
  refine dn (k := ?_)
  apply xa_pend 8 12 (f := f) (X := X) hX hp; exact rfl; exact rfl; (first | (apply makes_alloc tabOk; exact rfl) | (apply makes_slice tabOk; exact rfl; exact rfl; exact rfl; exact rfl; exact rfl; (intro X; ((repeat (first | exact Bld.nil | (apply Bld.one; exact rfl; (conv => lhs; whnf); exact rfl; (repeat (first | exact PutL.nil | apply PutL.skip | apply PutL.cons))) | (apply Bld.agg; exact rfl; exact rfl; exact rfl; (repeat (first | exact PutL.nil | apply PutL.skip | apply PutL.cons))))))))); kernel_rfl; kernel_rfl; kernel_rfl; kernel_rfl; (intro X Y; (repeat (first | exact pgg_base | refine pgg_step ?_ (by exact rfl)))); (intro w' hs; ((first | exact se_hold hs.hold | exact se_hold (hold_sim hs.hold rfl) | exact se_hold (hold_sim hs.hold.tail rfl) | exact se_hold (hR hs rfl) | exact se_hold hs.hold.tail | exact se_hold hs.hold.tail.tail | exact se_hold hs.hold.tail.tail.tail | exact se_done rfl))); intro f X w hp; have hs := hp.st
  (with_reducible apply xs_call); exact rfl; exact rfl; exact mul_ret p.w (sn p.t base) (by unfold InW; omega) (by omega) (by omega) _
  rw [tell_in (by unfold InW; omega)]
  rintro v w' ⟨rfl, ho⟩; replace hp := hp.only ho; replace hs := hp.st; repeat' (first|refine vs (k:=?_)|refine ps (k:=?_)|((first|refine st hs (k:=?_)|refine stA hs (k:=?_));intro w hs)|((first|refine al hs (k:=?_)|refine bx hs (k:=?_)|refine bs hs (k:=?_));intro b w hz hs)|refine qRg ?_|refine Nx.h ?_|refine qBo ?_|refine qCt ?_|refine qCf ?_|((with_reducible apply xs_guard);exact rfl;exact rfl;intro c hc;(fail_if_success have:true=c:=hc);(fail_if_success have:false=c:=hc);cases c)|(refine xc_if rfl (fun hc=>?_) (fun hc=>?_))|(refine xc_cond rfl (fun hc=>?_) (fun hc=>?_)))
  refine dn (k := ?_)
  refine tk 9 hX (hc := by cases f <;> kernel_rfl) (k := ?_)
  refine tk 10 hX (hc := by cases f <;> kernel_rfl) (k := ?_)
  refine tk 11 hX (hc := by cases f <;> kernel_rfl) (k := ?_)
  apply xa_pendE 12 (f := f) (X := X) hX hp; exact rfl; (first | (apply makes_alloc tabOk; exact rfl) | (apply makes_slice tabOk; exact rfl; exact rfl; exact rfl; exact rfl; exact rfl; (intro X; ((repeat (first | exact Bld.nil | (apply Bld.one; exact rfl; (conv => lhs; whnf); exact rfl; (repeat (first | exact PutL.nil | apply PutL.skip | apply PutL.cons))) | (apply Bld.agg; exact rfl; exact rfl; exact rfl; (repeat (first | exact PutL.nil | apply PutL.skip | apply PutL.cons))))))))); kernel_rfl; kernel_rfl; (intro X Y; (repeat (first | exact pgg_base | refine pgg_step ?_ (by exact rfl)))); (intro w' hs; ((first | exact se_hold hs.hold | exact se_hold (hold_sim hs.hold rfl) | exact se_hold (hold_sim hs.hold.tail rfl) | exact se_hold (hR hs rfl) | exact se_hold hs.hold.tail | exact se_hold hs.hold.tail.tail | exact se_hold hs.hold.tail.tail.tail | exact se_done rfl))); intro b w hI hs
  refine dt 13 hX (k := ?_)
  repeat' (first|refine vs (k:=?_)|refine ps (k:=?_)|((first|refine st hs (k:=?_)|refine stA hs (k:=?_));intro w hs)|((first|refine al hs (k:=?_)|refine bx hs (k:=?_)|refine bs hs (k:=?_));intro b w hz hs)|refine qRg ?_|refine Nx.h ?_|refine qBo ?_|refine qCt ?_|refine qCf ?_|((with_reducible apply xs_guard);exact rfl;exact rfl;intro c hc;(fail_if_success have:true=c:=hc);(fail_if_success have:false=c:=hc);cases c)|(refine xc_if rfl (fun hc=>?_) (fun hc=>?_))|(refine xc_cond rfl (fun hc=>?_) (fun hc=>?_)))
  refine dn (k := ?_)
  refine tk 14 hX (k := ?_)
  refine en (k := ?_)
  repeat' (first|refine vs (k:=?_)|refine ps (k:=?_)|((first|refine st hs (k:=?_)|refine stA hs (k:=?_));intro w hs)|((first|refine al hs (k:=?_)|refine bx hs (k:=?_)|refine bs hs (k:=?_));intro b w hz hs)|refine qRg ?_|refine Nx.h ?_|refine qBo ?_|refine qCt ?_|refine qCf ?_|((with_reducible apply xs_guard);exact rfl;exact rfl;intro c hc;(fail_if_success have:true=c:=hc);(fail_if_success have:false=c:=hc);cases c)|(refine xc_if rfl (fun hc=>?_) (fun hc=>?_))|(refine xc_cond rfl (fun hc=>?_) (fun hc=>?_)))
  refine dr [9] hs (k := ?_); intro hX w hs
  refine tk 0 hX (k := ?_)
  refine tk 1 hX (k := ?_)
  refine tk 2 hX (k := ?_)
  refine tk 3 hX (k := ?_)
  refine dt 4 hX (k := ?_)
  (with_reducible apply xs_call); exact rfl; exact rfl; exact ofU32_ret p.r ⟨hr0, hr1⟩ _
  rintro v w' ⟨rfl, ho⟩; replace hs := hs.call0 ho; repeat' (first|refine vs (k:=?_)|refine ps (k:=?_)|((first|refine st hs (k:=?_)|refine stA hs (k:=?_));intro w hs)|((first|refine al hs (k:=?_)|refine bx hs (k:=?_)|refine bs hs (k:=?_));intro b w hz hs)|refine qRg ?_|refine Nx.h ?_|refine qBo ?_|refine qCt ?_|refine qCf ?_|((with_reducible apply xs_guard);exact rfl;exact rfl;intro c hc;(fail_if_success have:true=c:=hc);(fail_if_success have:false=c:=hc);cases c)|(refine xc_if rfl (fun hc=>?_) (fun hc=>?_))|(refine xc_cond rfl (fun hc=>?_) (fun hc=>?_)))
  refine dn (k := ?_)
  refine dt 5 hX (k := ?_)
  (with_reducible apply xs_call); exact rfl; exact rfl; exact add_ret (p.w * sn p.t base) p.r (by unfold InW; omega) (by unfold InW; omega) _
  rw [tell_in (x := p.w * sn p.t base + p.r) h4]
  rintro v w' ⟨rfl, ho⟩; replace hs := hs.call0 ho; repeat' (first|refine vs (k:=?_)|refine ps (k:=?_)|((first|refine st hs (k:=?_)|refine stA hs (k:=?_));intro w hs)|((first|refine al hs (k:=?_)|refine bx hs (k:=?_)|refine bs hs (k:=?_));intro b w hz hs)|refine qRg ?_|refine Nx.h ?_|refine qBo ?_|refine qCt ?_|refine qCf ?_|((with_reducible apply xs_guard);exact rfl;exact rfl;intro c hc;(fail_if_success have:true=c:=hc);(fail_if_success have:false=c:=hc);cases c)|(refine xc_if rfl (fun hc=>?_) (fun hc=>?_))|(refine xc_cond rfl (fun hc=>?_) (fun hc=>?_)))
  refine dn (k := ?_)
  refine tk 6 hX (k := ?_)
  refine tk 7 hX (k := ?_)
  refine tk 8 hX (k := ?_)
  refine dt 9 hX (k := ?_)
  repeat' (first|refine vs (k:=?_)|refine ps (k:=?_)|((first|refine st hs (k:=?_)|refine stA hs (k:=?_));intro w hs)|((first|refine al hs (k:=?_)|refine bx hs (k:=?_)|refine bs hs (k:=?_));intro b w hz hs)|refine qRg ?_|refine Nx.h ?_|refine qBo ?_|refine qCt ?_|refine qCf ?_|((with_reducible apply xs_guard);exact rfl;exact rfl;intro c hc;(fail_if_success have:true=c:=hc);(fail_if_success have:false=c:=hc);cases c)|(refine xc_if rfl (fun hc=>?_) (fun hc=>?_))|(refine xc_cond rfl (fun hc=>?_) (fun hc=>?_)))
  refine dn (k := ?_)
  refine en (k := ?_)
  repeat' (first|refine vs (k:=?_)|refine ps (k:=?_)|((first|refine st hs (k:=?_)|refine stA hs (k:=?_));intro w hs)|((first|refine al hs (k:=?_)|refine bx hs (k:=?_)|refine bs hs (k:=?_));intro b w hz hs)|refine qRg ?_|refine Nx.h ?_|refine qBo ?_|refine qCt ?_|refine qCf ?_|((with_reducible apply xs_guard);exact rfl;exact rfl;intro c hc;(fail_if_success have:true=c:=hc);(fail_if_success have:false=c:=hc);cases c)|(refine xc_if rfl (fun hc=>?_) (fun hc=>?_))|(refine xc_cond rfl (fun hc=>?_) (fun hc=>?_)))
  first | refine rt (hq := ?_) | refine rt' (hq := ?_)
  exact ⟨rfl, hs.only0 rfl⟩
theorem add_ok (x y : Int) (hx : InW x) (hy : InW y) (h : InW (x + y)) (w0 : World) : Ret Tryz.prog 118 #[wv x, wv y] w0 fun v w' => v = .tuple #[wv (x + y), .bool true] ∧ Only [] w0 w' := by
  have := add_ret x y hx hy w0; rwa [tell_in h] at this
theorem sub_ok (x y : Int) (hx : InW x) (hy : InW y) (h : InW (x - y)) (w0 : World) : Ret Tryz.prog 104 #[wv x, wv y] w0 fun v w' => v = .tuple #[wv (x - y), .bool true] ∧ Only [] w0 w' := by
  have := sub_ret x y hx hy w0; rwa [tell_in h] at this
theorem mul_ok (x n : Int) (hx : InW x) (hn0 : -9223372036854775808 ≤ n) (hn1 : n < 9223372036854775808) (h : InW (x * n)) (w0 : World) : Ret Tryz.prog 133 #[wv x, .int .i64 n] w0 fun v w' => v = .tuple #[wv (x * n), .bool true] ∧ Only [] w0 w' := by
  have := mul_ret x n hx hn0 hn1 w0; rwa [tell_in h] at this
theorem div_ok (x y : Int) (hx : InW x) (hy0 : 0 < y) (hy1 : y < 18446744073709551616) (w0 : World) : Ret Tryz.prog 63 #[wv x, .int .u64 y] w0 fun v w' => v = .tuple #[wv (x / y), .int .u64 (x % y), .bool true] ∧ Only [] w0 w' := by
  have := div_ret x y hx (by omega) hy1 w0; unfold divV at this; rwa [if_neg (by omega)] at this
theorem div_in {x y : Int} (hx : InW x) (hy : 0 < y) : InW (x / y) := by
  obtain ⟨h1, h2⟩ := hx
  unfold InW
  constructor
  · rw [Int.le_ediv_iff_mul_le hy]
    have : -170141183460469231731687303715884105728 * y ≤ -170141183460469231731687303715884105728 := by omega
    omega
  · rw [Int.ediv_lt_iff_lt_mul hy]
    have : 170141183460469231731687303715884105728 ≤ 170141183460469231731687303715884105728 * y := by omega
    omega
theorem div64_ok (x y : Int) (hx : InW x) (hy0 : 0 < y) (hy1 : y < 4294967296) (w0 : World) : Ret Tryz.prog 63 #[wv x, .int .u64 (IntKind.u64.wrap y)] w0 fun v w' => v = .tuple #[wv (x / y), .int .u64 (x % y), .bool true] ∧ Only [] w0 w' := by
  rw [u64_of32 ⟨by omega, hy1⟩]; exact div_ok x y hx hy0 (by omega) w0
theorem small_ok (x : Int) (hx : InW x) (h : In64 x) (w0 : World) : Ret Tryz.prog 64 #[wv x] w0 fun v w' => v = .tuple #[.int .i64 x, .bool true] ∧ Only [] w0 w' := by
  have := small_ret x hx w0; unfold smallV at this; rwa [if_pos h] at this
theorem small_no (x : Int) (hx : InW x) (h : ¬ In64 x) (w0 : World) : Ret Tryz.prog 64 #[wv x] w0 fun v w' => v = .tuple #[.int .i64 0, .bool false] ∧ Only [] w0 w' := by
  have := small_ret x hx w0; unfold smallV at this; rwa [if_neg h] at this
def atP (base d w : Int) : Option Pt := if mayW w = true ∧ In64 (d / w) then some ⟨lat base (d / w), d % w, w⟩ else none
def Pt.zero : Pt := ⟨0, 0, 0⟩
def ptV (o : Option Pt) : Value := .tuple #[pv (o.getD .zero), .bool o.isSome]
theorem mayW_iff {w : Int} : mayW w = true ↔ 1 ≤ w ∧ w ≤ 1048576 := by unfold mayW; simp
theorem at_some {base d w : Int} {p : Pt} (h : atP base d w = some p) : p.In ∧ p.w = w ∧ p.right = true := by
  unfold atP at h
  split at h
  · rename_i hc
    cases h
    have h1 := mayW_iff.1 hc.1
    have m0 := Int.emod_nonneg d (show w ≠ 0 by omega)
    have m1 := Int.emod_lt_of_pos d (show 0 < w by omega)
    refine ⟨⟨lat_in _ _, ⟨m0, by show d % w < _; omega⟩, by show 0 ≤ w; omega, by show w < _; omega⟩, rfl, ?_⟩
    unfold Pt.right
    simp only [hc.1, Bool.true_and, decide_eq_true_eq]
    exact m1
  · cases h
theorem at_ret (base d q : Int) (hd : InW d) (w0 : World) : Ret Tryz.prog 135 #[.int .u64 base, wv d, .int .u32 q] w0 fun v w' => v = ptV (atP base d q) ∧ Only [] w0 w' := by
  have hs := St.nil w0
  refine ret_of_xc Tryz.func135 (by kernel_rfl) rfl Tryz.ntmps135 rfl rfl rfl ?_
  repeat' (first|refine vs (k:=?_)|refine ps (k:=?_)|((first|refine st hs (k:=?_)|refine stA hs (k:=?_));intro w hs)|((first|refine al hs (k:=?_)|refine bx hs (k:=?_)|refine bs hs (k:=?_));intro b w hz hs)|refine qRg ?_|refine Nx.h ?_|refine qBo ?_|refine qCt ?_|refine qCf ?_|((with_reducible apply xs_guard);exact rfl;exact rfl;intro c hc;(fail_if_success have:true=c:=hc);(fail_if_success have:false=c:=hc);cases c)|(refine xc_if rfl (fun hc=>?_) (fun hc=>?_))|(refine xc_cond rfl (fun hc=>?_) (fun hc=>?_)))
  (with_reducible apply xs_call); exact rfl; exact rfl; exact weight_ret q _
  rintro v w' ⟨rfl, ho⟩; replace hs := hs.call0 ho; repeat' (first|refine vs (k:=?_)|refine ps (k:=?_)|((first|refine st hs (k:=?_)|refine stA hs (k:=?_));intro w hs)|((first|refine al hs (k:=?_)|refine bx hs (k:=?_)|refine bs hs (k:=?_));intro b w hz hs)|refine qRg ?_|refine Nx.h ?_|refine qBo ?_|refine qCt ?_|refine qCf ?_|((with_reducible apply xs_guard);exact rfl;exact rfl;intro c hc;(fail_if_success have:true=c:=hc);(fail_if_success have:false=c:=hc);cases c)|(refine xc_if rfl (fun hc=>?_) (fun hc=>?_))|(refine xc_cond rfl (fun hc=>?_) (fun hc=>?_)))
  · first | refine rt (hq := ?_) | refine rt' (hq := ?_)
    refine ⟨?_, hs.only0 rfl⟩
    have : mayW q = false := by simpa using hc
    unfold atP
    rw [this]; rfl
  · have h0 : mayW q = true := by simpa using hc
    have h1 := mayW_iff.1 h0
    (with_reducible apply xs_call); exact rfl; exact rfl; exact div64_ok d q hd (by omega) (by omega) _
    rintro v w' ⟨rfl, ho⟩; replace hs := hs.call0 ho; repeat' (first|refine vs (k:=?_)|refine ps (k:=?_)|((first|refine st hs (k:=?_)|refine stA hs (k:=?_));intro w hs)|((first|refine al hs (k:=?_)|refine bx hs (k:=?_)|refine bs hs (k:=?_));intro b w hz hs)|refine qRg ?_|refine Nx.h ?_|refine qBo ?_|refine qCt ?_|refine qCf ?_|((with_reducible apply xs_guard);exact rfl;exact rfl;intro c hc;(fail_if_success have:true=c:=hc);(fail_if_success have:false=c:=hc);cases c)|(refine xc_if rfl (fun hc=>?_) (fun hc=>?_))|(refine xc_cond rfl (fun hc=>?_) (fun hc=>?_)))
    by_cases h64 : In64 (d / q)
    · (with_reducible apply xs_call); exact rfl; exact rfl; exact small_ok (d / q) (div_in hd (by omega)) h64 _
      rintro v w' ⟨rfl, ho⟩; replace hs := hs.call0 ho; repeat' (first|refine vs (k:=?_)|refine ps (k:=?_)|((first|refine st hs (k:=?_)|refine stA hs (k:=?_));intro w hs)|((first|refine al hs (k:=?_)|refine bx hs (k:=?_)|refine bs hs (k:=?_));intro b w hz hs)|refine qRg ?_|refine Nx.h ?_|refine qBo ?_|refine qCt ?_|refine qCf ?_|((with_reducible apply xs_guard);exact rfl;exact rfl;intro c hc;(fail_if_success have:true=c:=hc);(fail_if_success have:false=c:=hc);cases c)|(refine xc_if rfl (fun hc=>?_) (fun hc=>?_))|(refine xc_cond rfl (fun hc=>?_) (fun hc=>?_)))
      (with_reducible apply xs_call); exact rfl; exact rfl; exact vadd_ret base (d / q) _
      rintro v w' ⟨rfl, ho⟩; replace hs := hs.call0 ho; repeat' (first|refine vs (k:=?_)|refine ps (k:=?_)|((first|refine st hs (k:=?_)|refine stA hs (k:=?_));intro w hs)|((first|refine al hs (k:=?_)|refine bx hs (k:=?_)|refine bs hs (k:=?_));intro b w hz hs)|refine qRg ?_|refine Nx.h ?_|refine qBo ?_|refine qCt ?_|refine qCf ?_|((with_reducible apply xs_guard);exact rfl;exact rfl;intro c hc;(fail_if_success have:true=c:=hc);(fail_if_success have:false=c:=hc);cases c)|(refine xc_if rfl (fun hc=>?_) (fun hc=>?_))|(refine xc_cond rfl (fun hc=>?_) (fun hc=>?_)))
      first | refine rt (hq := ?_) | refine rt' (hq := ?_)
      refine ⟨?_, hs.only0 rfl⟩
      unfold atP
      rw [if_pos ⟨h0, h64⟩]
      have e : IntKind.u32.wrap (d % q) = d % q := u32_id ⟨Int.emod_nonneg _ (by omega), by have := Int.emod_lt_of_pos d (show 0 < q by omega); omega⟩
      rw [e]; rfl
    · (with_reducible apply xs_call); exact rfl; exact rfl; exact small_no (d / q) (div_in hd (by omega)) h64 _
      rintro v w' ⟨rfl, ho⟩; replace hs := hs.call0 ho; repeat' (first|refine vs (k:=?_)|refine ps (k:=?_)|((first|refine st hs (k:=?_)|refine stA hs (k:=?_));intro w hs)|((first|refine al hs (k:=?_)|refine bx hs (k:=?_)|refine bs hs (k:=?_));intro b w hz hs)|refine qRg ?_|refine Nx.h ?_|refine qBo ?_|refine qCt ?_|refine qCf ?_|((with_reducible apply xs_guard);exact rfl;exact rfl;intro c hc;(fail_if_success have:true=c:=hc);(fail_if_success have:false=c:=hc);cases c)|(refine xc_if rfl (fun hc=>?_) (fun hc=>?_))|(refine xc_cond rfl (fun hc=>?_) (fun hc=>?_)))
      first | refine rt (hq := ?_) | refine rt' (hq := ?_)
      refine ⟨?_, hs.only0 rfl⟩
      unfold atP
      rw [if_neg (fun h => h64 h.2)]; rfl
end Go.Proofs.YtegoaabjccignaaGreatDoorX

namespace Go.Proofs.YtegoaabjccignaaGreatDoorX
open Go Go.RowKit
attribute [local irreducible] XS XC XA thenE blockE retE loopE loopS cutB cutN doneE SE
def tot (x : Int) : Int := if InW x then x else 0
theorem tot_in (x : Int) : InW (tot x) := by unfold tot; split; assumption; decide
theorem tell_tot (x : Int) : tellV x = .tuple #[wv (tot x), .bool (decide (InW x))] := by
  unfold tellV tot; split <;> rename_i h <;> simp [h]
theorem add_t (x y : Int) (hx : InW x) (hy : InW y) (w0 : World) : Ret Tryz.prog 118 #[wv x, wv y] w0 fun v w' => v = .tuple #[wv (tot (x + y)), .bool (decide (InW (x + y)))] ∧ Only [] w0 w' := by
  have := add_ret x y hx hy w0; rwa [tell_tot] at this
theorem sub_t (x y : Int) (hx : InW x) (hy : InW y) (w0 : World) : Ret Tryz.prog 104 #[wv x, wv y] w0 fun v w' => v = .tuple #[wv (tot (x - y)), .bool (decide (InW (x - y)))] ∧ Only [] w0 w' := by
  have := sub_ret x y hx hy w0; rwa [tell_tot] at this
theorem mul_t (x n : Int) (hx : InW x) (hn : In64 n) (w0 : World) : Ret Tryz.prog 133 #[wv x, .int .i64 n] w0 fun v w' => v = .tuple #[wv (tot (x * n)), .bool (decide (InW (x * n)))] ∧ Only [] w0 w' := by
  have := mul_ret x n hx hn.1 hn.2 w0; rwa [tell_tot] at this
theorem neg_t (x : Int) (hx : InW x) (w0 : World) : Ret Tryz.prog 169 #[wv x] w0 fun v w' => v = .tuple #[wv (tot (-x)), .bool (decide (InW (-x)))] ∧ Only [] w0 w' := by
  have := neg_ret x hx w0; rwa [tell_tot] at this
def sml (x : Int) : Int := if In64 x then x else 0
theorem small_t (x : Int) (hx : InW x) (w0 : World) : Ret Tryz.prog 64 #[wv x] w0 fun v w' => v = .tuple #[.int .i64 (sml x), .bool (decide (In64 x))] ∧ Only [] w0 w' := by
  have := small_ret x hx w0
  have e : smallV x = .tuple #[.int .i64 (sml x), .bool (decide (In64 x))] := by unfold smallV sml; split <;> rename_i h <;> simp [h]
  rwa [e] at this
def dq (x y : Int) : Int := if y = 0 then 0 else x / y
def dm (x y : Int) : Int := if y = 0 then 0 else x % y
theorem dq_in {x y : Int} (hx : InW x) (hy : 0 ≤ y) : InW (dq x y) := by
  unfold dq; split; decide; exact div_in hx (by omega)
theorem div_t (x y : Int) (hx : InW x) (hy : U64 y) (w0 : World) : Ret Tryz.prog 63 #[wv x, .int .u64 y] w0 fun v w' => v = .tuple #[wv (dq x y), .int .u64 (dm x y), .bool (decide (y ≠ 0))] ∧ Only [] w0 w' := by
  have := div_ret x y hx hy.1 hy.2 w0
  have e : divV x y = .tuple #[wv (dq x y), .int .u64 (dm x y), .bool (decide (y ≠ 0))] := by unfold divV dq dm; split <;> rename_i h <;> simp [h]
  rwa [e] at this
def movP (p : Pt) (g : Int) : Option Pt := atP p.t (g + p.r) p.w
theorem move_ret (p : Pt) (g : Int) (h : p.In) (hg : U64 g) (w0 : World) : Ret Tryz.prog 101 #[pv p, .int .u64 g] w0 fun v w' => v = ptV (movP p g) ∧ Only [] w0 w' := by
  obtain ⟨⟨ht0, ht1⟩, ⟨hr0, hr1⟩, hw0, hw1⟩ := h
  obtain ⟨hg0, hg1⟩ := hg
  have hs := St.nil w0
  refine ret_of_xc Tryz.func101 (by kernel_rfl) rfl Tryz.ntmps101 rfl rfl rfl ?_
  repeat' (first|refine vs (k:=?_)|refine ps (k:=?_)|((first|refine st hs (k:=?_)|refine stA hs (k:=?_));intro w hs)|((first|refine al hs (k:=?_)|refine bx hs (k:=?_)|refine bs hs (k:=?_));intro b w hz hs)|refine qRg ?_|refine Nx.h ?_|refine qBo ?_|refine qCt ?_|refine qCf ?_|((with_reducible apply xs_guard);exact rfl;exact rfl;intro c hc;(fail_if_success have:true=c:=hc);(fail_if_success have:false=c:=hc);cases c)|(refine xc_if rfl (fun hc=>?_) (fun hc=>?_))|(refine xc_cond rfl (fun hc=>?_) (fun hc=>?_)))
  refine dr [] hs (k := ?_); intro hX w hs
  refine tk 0 hX (k := ?_)
  refine tk 2 hX (k := ?_)
  refine tk 3 hX (k := ?_)
  refine tk 4 hX (k := ?_)
  refine pd0 10 6 hs (k := ?_); intro f X w hp; have hs := hp.st
  apply xa_pend 1 10 (f := f) (X := X) hX hp; exact rfl; exact rfl; (first | (apply makes_alloc tabOk; exact rfl) | (apply makes_slice tabOk; exact rfl; exact rfl; exact rfl; exact rfl; exact rfl; (intro X; ((repeat (first | exact Bld.nil | (apply Bld.one; exact rfl; (conv => lhs; whnf); exact rfl; (repeat (first | exact PutL.nil | apply PutL.skip | apply PutL.cons))) | (apply Bld.agg; exact rfl; exact rfl; exact rfl; (repeat (first | exact PutL.nil | apply PutL.skip | apply PutL.cons))))))))); kernel_rfl; kernel_rfl; kernel_rfl; kernel_rfl; (intro X Y; (repeat (first | exact pgg_base | refine pgg_step ?_ (by exact rfl)))); (intro w' hs; ((first | exact se_hold hs.hold | exact se_hold (hold_sim hs.hold rfl) | exact se_hold (hold_sim hs.hold.tail rfl) | exact se_hold (hR hs rfl) | exact se_hold hs.hold.tail | exact se_hold hs.hold.tail.tail | exact se_hold hs.hold.tail.tail.tail | exact se_done rfl))); intro f X w hp; have hs := hp.st
  (with_reducible apply xs_call); exact rfl; exact rfl; exact ofU_ret g (by omega) (by omega) _
  rintro v w' ⟨rfl, ho⟩; replace hp := hp.only ho; replace hs := hp.st; repeat' (first|refine vs (k:=?_)|refine ps (k:=?_)|((first|refine st hs (k:=?_)|refine stA hs (k:=?_));intro w hs)|((first|refine al hs (k:=?_)|refine bx hs (k:=?_)|refine bs hs (k:=?_));intro b w hz hs)|refine qRg ?_|refine Nx.h ?_|refine qBo ?_|refine qCt ?_|refine qCf ?_|((with_reducible apply xs_guard);exact rfl;exact rfl;intro c hc;(fail_if_success have:true=c:=hc);(fail_if_success have:false=c:=hc);cases c)|(refine xc_if rfl (fun hc=>?_) (fun hc=>?_))|(refine xc_cond rfl (fun hc=>?_) (fun hc=>?_)))
  refine dn (k := ?_)
  apply xa_pend 5 10 (f := f) (X := X) hX hp; exact rfl; exact rfl; (first | (apply makes_alloc tabOk; exact rfl) | (apply makes_slice tabOk; exact rfl; exact rfl; exact rfl; exact rfl; exact rfl; (intro X; ((repeat (first | exact Bld.nil | (apply Bld.one; exact rfl; (conv => lhs; whnf); exact rfl; (repeat (first | exact PutL.nil | apply PutL.skip | apply PutL.cons))) | (apply Bld.agg; exact rfl; exact rfl; exact rfl; (repeat (first | exact PutL.nil | apply PutL.skip | apply PutL.cons))))))))); kernel_rfl; kernel_rfl; kernel_rfl; kernel_rfl; (intro X Y; (repeat (first | exact pgg_base | refine pgg_step ?_ (by exact rfl)))); (intro w' hs; ((first | exact se_hold hs.hold | exact se_hold (hold_sim hs.hold rfl) | exact se_hold (hold_sim hs.hold.tail rfl) | exact se_hold (hR hs rfl) | exact se_hold hs.hold.tail | exact se_hold hs.hold.tail.tail | exact se_hold hs.hold.tail.tail.tail | exact se_done rfl))); intro f X w hp; have hs := hp.st
  (with_reducible apply xs_call); exact rfl; exact rfl; exact ofU32_ret p.r ⟨hr0, hr1⟩ _
  rintro v w' ⟨rfl, ho⟩; replace hp := hp.only ho; replace hs := hp.st; repeat' (first|refine vs (k:=?_)|refine ps (k:=?_)|((first|refine st hs (k:=?_)|refine stA hs (k:=?_));intro w hs)|((first|refine al hs (k:=?_)|refine bx hs (k:=?_)|refine bs hs (k:=?_));intro b w hz hs)|refine qRg ?_|refine Nx.h ?_|refine qBo ?_|refine qCt ?_|refine qCf ?_|((with_reducible apply xs_guard);exact rfl;exact rfl;intro c hc;(fail_if_success have:true=c:=hc);(fail_if_success have:false=c:=hc);cases c)|(refine xc_if rfl (fun hc=>?_) (fun hc=>?_))|(refine xc_cond rfl (fun hc=>?_) (fun hc=>?_)))
  refine dn (k := ?_)
  apply xa_pend 6 10 (f := f) (X := X) hX hp; exact rfl; exact rfl; (first | (apply makes_alloc tabOk; exact rfl) | (apply makes_slice tabOk; exact rfl; exact rfl; exact rfl; exact rfl; exact rfl; (intro X; ((repeat (first | exact Bld.nil | (apply Bld.one; exact rfl; (conv => lhs; whnf); exact rfl; (repeat (first | exact PutL.nil | apply PutL.skip | apply PutL.cons))) | (apply Bld.agg; exact rfl; exact rfl; exact rfl; (repeat (first | exact PutL.nil | apply PutL.skip | apply PutL.cons))))))))); kernel_rfl; kernel_rfl; kernel_rfl; kernel_rfl; (intro X Y; (repeat (first | exact pgg_base | refine pgg_step ?_ (by exact rfl)))); (intro w' hs; ((first | exact se_hold hs.hold | exact se_hold (hold_sim hs.hold rfl) | exact se_hold (hold_sim hs.hold.tail rfl) | exact se_hold (hR hs rfl) | exact se_hold hs.hold.tail | exact se_hold hs.hold.tail.tail | exact se_hold hs.hold.tail.tail.tail | exact se_done rfl))); intro f X w hp; have hs := hp.st
  (with_reducible apply xs_call); exact rfl; exact rfl; exact add_ok g p.r (by unfold InW; omega) (by unfold InW; omega) (by unfold InW; omega) _
  rintro v w' ⟨rfl, ho⟩; replace hp := hp.only ho; replace hs := hp.st; repeat' (first|refine vs (k:=?_)|refine ps (k:=?_)|((first|refine st hs (k:=?_)|refine stA hs (k:=?_));intro w hs)|((first|refine al hs (k:=?_)|refine bx hs (k:=?_)|refine bs hs (k:=?_));intro b w hz hs)|refine qRg ?_|refine Nx.h ?_|refine qBo ?_|refine qCt ?_|refine qCf ?_|((with_reducible apply xs_guard);exact rfl;exact rfl;intro c hc;(fail_if_success have:true=c:=hc);(fail_if_success have:false=c:=hc);cases c)|(refine xc_if rfl (fun hc=>?_) (fun hc=>?_))|(refine xc_cond rfl (fun hc=>?_) (fun hc=>?_)))
  refine dn (k := ?_)
  refine tk 7 hX (hc := by cases f <;> kernel_rfl) (k := ?_)
  refine tk 8 hX (hc := by cases f <;> kernel_rfl) (k := ?_)
  refine tk 9 hX (hc := by cases f <;> kernel_rfl) (k := ?_)
  apply xa_pendE 10 (f := f) (X := X) hX hp; exact rfl; (first | (apply makes_alloc tabOk; exact rfl) | (apply makes_slice tabOk; exact rfl; exact rfl; exact rfl; exact rfl; exact rfl; (intro X; ((repeat (first | exact Bld.nil | (apply Bld.one; exact rfl; (conv => lhs; whnf); exact rfl; (repeat (first | exact PutL.nil | apply PutL.skip | apply PutL.cons))) | (apply Bld.agg; exact rfl; exact rfl; exact rfl; (repeat (first | exact PutL.nil | apply PutL.skip | apply PutL.cons))))))))); kernel_rfl; kernel_rfl; (intro X Y; (repeat (first | exact pgg_base | refine pgg_step ?_ (by exact rfl)))); (intro w' hs; ((first | exact se_hold hs.hold | exact se_hold (hold_sim hs.hold rfl) | exact se_hold (hold_sim hs.hold.tail rfl) | exact se_hold (hR hs rfl) | exact se_hold hs.hold.tail | exact se_hold hs.hold.tail.tail | exact se_hold hs.hold.tail.tail.tail | exact se_done rfl))); intro b w hI hs
  refine dt 11 hX (k := ?_)
  repeat' (first|refine vs (k:=?_)|refine ps (k:=?_)|((first|refine st hs (k:=?_)|refine stA hs (k:=?_));intro w hs)|((first|refine al hs (k:=?_)|refine bx hs (k:=?_)|refine bs hs (k:=?_));intro b w hz hs)|refine qRg ?_|refine Nx.h ?_|refine qBo ?_|refine qCt ?_|refine qCf ?_|((with_reducible apply xs_guard);exact rfl;exact rfl;intro c hc;(fail_if_success have:true=c:=hc);(fail_if_success have:false=c:=hc);cases c)|(refine xc_if rfl (fun hc=>?_) (fun hc=>?_))|(refine xc_cond rfl (fun hc=>?_) (fun hc=>?_)))
  refine dn (k := ?_)
  refine tk 12 hX (k := ?_)
  refine en (k := ?_)
  repeat' (first|refine vs (k:=?_)|refine ps (k:=?_)|((first|refine st hs (k:=?_)|refine stA hs (k:=?_));intro w hs)|((first|refine al hs (k:=?_)|refine bx hs (k:=?_)|refine bs hs (k:=?_));intro b w hz hs)|refine qRg ?_|refine Nx.h ?_|refine qBo ?_|refine qCt ?_|refine qCf ?_|((with_reducible apply xs_guard);exact rfl;exact rfl;intro c hc;(fail_if_success have:true=c:=hc);(fail_if_success have:false=c:=hc);cases c)|(refine xc_if rfl (fun hc=>?_) (fun hc=>?_))|(refine xc_cond rfl (fun hc=>?_) (fun hc=>?_)))
  (with_reducible apply xs_call); exact rfl; exact rfl; exact at_ret p.t (g + p.r) p.w (by unfold InW; omega) _
  rintro v w' ⟨rfl, ho⟩; replace hs := hs.call0 ho; repeat' (first|refine vs (k:=?_)|refine ps (k:=?_)|((first|refine st hs (k:=?_)|refine stA hs (k:=?_));intro w hs)|((first|refine al hs (k:=?_)|refine bx hs (k:=?_)|refine bs hs (k:=?_));intro b w hz hs)|refine qRg ?_|refine Nx.h ?_|refine qBo ?_|refine qCt ?_|refine qCf ?_|((with_reducible apply xs_guard);exact rfl;exact rfl;intro c hc;(fail_if_success have:true=c:=hc);(fail_if_success have:false=c:=hc);cases c)|(refine xc_if rfl (fun hc=>?_) (fun hc=>?_))|(refine xc_cond rfl (fun hc=>?_) (fun hc=>?_)))
  first | refine rt (hq := ?_) | refine rt' (hq := ?_)
  exact ⟨rfl, hs.only0 rfl⟩
def cmpP (p q : Pt) : Int := if cmpI 0 (sn q.t p.t) = 0 then cmpI (p.r * q.w) (q.r * p.w) else cmpI 0 (sn q.t p.t)
theorem prod32 {a b : Int} (ha : U32 a) (hb : U32 b) : IntKind.u64.wrap (IntKind.u64.wrap a * IntKind.u64.wrap b) = a * b := by
  rw [u64_of32 ha, u64_of32 hb]
  refine u64_id ⟨Int.mul_nonneg ha.1 hb.1, ?_⟩
  have := mul_rng (w := a) (s := b) (W := 4294967296) (S := 4294967296) ha.1 (Int.le_of_lt ha.2) (by have := hb.1; omega) (Int.le_of_lt hb.2)
  have h1 := ha.2
  have h2 : a * b ≤ a * 4294967295 := Int.mul_le_mul_of_nonneg_left (by have := hb.2; omega) ha.1
  omega
theorem pcmp_ret (p q : Pt) (hp' : p.In) (hq : q.In) (w0 : World) : Ret Tryz.prog 110 #[pv p, pv q] w0 fun v w' => v = .int .i64 (cmpP p q) ∧ Only [] w0 w' := by
  have hs := St.nil w0
  refine ret_of_xc Tryz.func110 (by kernel_rfl) rfl Tryz.ntmps110 rfl rfl rfl ?_
  repeat' (first|refine vs (k:=?_)|refine ps (k:=?_)|((first|refine st hs (k:=?_)|refine stA hs (k:=?_));intro w hs)|((first|refine al hs (k:=?_)|refine bx hs (k:=?_)|refine bs hs (k:=?_));intro b w hz hs)|refine qRg ?_|refine Nx.h ?_|refine qBo ?_|refine qCt ?_|refine qCf ?_|((with_reducible apply xs_guard);exact rfl;exact rfl;intro c hc;(fail_if_success have:true=c:=hc);(fail_if_success have:false=c:=hc);cases c)|(refine xc_if rfl (fun hc=>?_) (fun hc=>?_))|(refine xc_cond rfl (fun hc=>?_) (fun hc=>?_)))
  refine dr [] hs (k := ?_); intro hX w hs
  refine tk 0 hX (k := ?_)
  refine tk 1 hX (k := ?_)
  refine tk 2 hX (k := ?_)
  refine tk 3 hX (k := ?_)
  refine tk 6 hX (k := ?_)
  refine tk 7 hX (k := ?_)
  refine tk 8 hX (k := ?_)
  refine tk 9 hX (k := ?_)
  refine tk 10 hX (k := ?_)
  refine tk 11 hX (k := ?_)
  refine tk 12 hX (k := ?_)
  refine tk 13 hX (k := ?_)
  refine tk 14 hX (k := ?_)
  refine tk 15 hX (k := ?_)
  refine tk 16 hX (k := ?_)
  refine tk 17 hX (k := ?_)
  refine tk 18 hX (k := ?_)
  refine tk 19 hX (k := ?_)
  refine xa_set 17 (congrArg (Value.int .u64) (prod32 hp'.2.1 hq.2.2)) ?_
  refine xa_set 24 (congrArg (Value.int .u64) (prod32 hq.2.1 hp'.2.2)) ?_
  refine dt 4 hX (k := ?_)
  (with_reducible apply xs_call); exact rfl; exact rfl; exact since_ret q.t p.t _
  rintro v w' ⟨rfl, ho⟩; replace hs := hs.call0 ho; repeat' (first|refine vs (k:=?_)|refine ps (k:=?_)|((first|refine st hs (k:=?_)|refine stA hs (k:=?_));intro w hs)|((first|refine al hs (k:=?_)|refine bx hs (k:=?_)|refine bs hs (k:=?_));intro b w hz hs)|refine qRg ?_|refine Nx.h ?_|refine qBo ?_|refine qCt ?_|refine qCf ?_|((with_reducible apply xs_guard);exact rfl;exact rfl;intro c hc;(fail_if_success have:true=c:=hc);(fail_if_success have:false=c:=hc);cases c)|(refine xc_if rfl (fun hc=>?_) (fun hc=>?_))|(refine xc_cond rfl (fun hc=>?_) (fun hc=>?_)))
  refine dn (k := ?_)
  refine dt 5 hX (k := ?_)
  (with_reducible apply xs_call); exact rfl; exact rfl; exact compareS_ret 0 (sn q.t p.t) _
  rintro v w' ⟨rfl, ho⟩; replace hs := hs.call0 ho; repeat' (first|refine vs (k:=?_)|refine ps (k:=?_)|((first|refine st hs (k:=?_)|refine stA hs (k:=?_));intro w hs)|((first|refine al hs (k:=?_)|refine bx hs (k:=?_)|refine bs hs (k:=?_));intro b w hz hs)|refine qRg ?_|refine Nx.h ?_|refine qBo ?_|refine qCt ?_|refine qCf ?_|((with_reducible apply xs_guard);exact rfl;exact rfl;intro c hc;(fail_if_success have:true=c:=hc);(fail_if_success have:false=c:=hc);cases c)|(refine xc_if rfl (fun hc=>?_) (fun hc=>?_))|(refine xc_cond rfl (fun hc=>?_) (fun hc=>?_)))
  refine dn (k := ?_)
  refine dt 20 hX (k := ?_)
  (with_reducible apply xs_call); exact rfl; exact rfl; exact compareU_ret (p.r * q.w) (q.r * p.w) _
  rintro v w' ⟨rfl, ho⟩; replace hs := hs.call0 ho; repeat' (first|refine vs (k:=?_)|refine ps (k:=?_)|((first|refine st hs (k:=?_)|refine stA hs (k:=?_));intro w hs)|((first|refine al hs (k:=?_)|refine bx hs (k:=?_)|refine bs hs (k:=?_));intro b w hz hs)|refine qRg ?_|refine Nx.h ?_|refine qBo ?_|refine qCt ?_|refine qCf ?_|((with_reducible apply xs_guard);exact rfl;exact rfl;intro c hc;(fail_if_success have:true=c:=hc);(fail_if_success have:false=c:=hc);cases c)|(refine xc_if rfl (fun hc=>?_) (fun hc=>?_))|(refine xc_cond rfl (fun hc=>?_) (fun hc=>?_)))
  refine dn (k := ?_)
  refine dt 21 hX (k := ?_)
  repeat' (first|refine vs (k:=?_)|refine ps (k:=?_)|((first|refine st hs (k:=?_)|refine stA hs (k:=?_));intro w hs)|((first|refine al hs (k:=?_)|refine bx hs (k:=?_)|refine bs hs (k:=?_));intro b w hz hs)|refine qRg ?_|refine Nx.h ?_|refine qBo ?_|refine qCt ?_|refine qCf ?_|((with_reducible apply xs_guard);exact rfl;exact rfl;intro c hc;(fail_if_success have:true=c:=hc);(fail_if_success have:false=c:=hc);cases c)|(refine xc_if rfl (fun hc=>?_) (fun hc=>?_))|(refine xc_cond rfl (fun hc=>?_) (fun hc=>?_)))
  refine dn (k := ?_)
  refine dt 22 hX (k := ?_)
  (with_reducible apply xs_call); exact rfl; exact rfl; exact or_ret _ _ _ _ _ (hs.get At.head)
  rintro v w' ⟨rfl, ho⟩; replace hs := hs.call0 ho; repeat' (first|refine vs (k:=?_)|refine ps (k:=?_)|((first|refine st hs (k:=?_)|refine stA hs (k:=?_));intro w hs)|((first|refine al hs (k:=?_)|refine bx hs (k:=?_)|refine bs hs (k:=?_));intro b w hz hs)|refine qRg ?_|refine Nx.h ?_|refine qBo ?_|refine qCt ?_|refine qCf ?_|((with_reducible apply xs_guard);exact rfl;exact rfl;intro c hc;(fail_if_success have:true=c:=hc);(fail_if_success have:false=c:=hc);cases c)|(refine xc_if rfl (fun hc=>?_) (fun hc=>?_))|(refine xc_cond rfl (fun hc=>?_) (fun hc=>?_)))
  refine dn (k := ?_)
  refine tk 23 hX (k := ?_)
  refine en (k := ?_)
  repeat' (first|refine vs (k:=?_)|refine ps (k:=?_)|((first|refine st hs (k:=?_)|refine stA hs (k:=?_));intro w hs)|((first|refine al hs (k:=?_)|refine bx hs (k:=?_)|refine bs hs (k:=?_));intro b w hz hs)|refine qRg ?_|refine Nx.h ?_|refine qBo ?_|refine qCt ?_|refine qCf ?_|((with_reducible apply xs_guard);exact rfl;exact rfl;intro c hc;(fail_if_success have:true=c:=hc);(fail_if_success have:false=c:=hc);cases c)|(refine xc_if rfl (fun hc=>?_) (fun hc=>?_))|(refine xc_cond rfl (fun hc=>?_) (fun hc=>?_)))
  first | refine rt (hq := ?_) | refine rt' (hq := ?_)
  exact ⟨rfl, hs.only0 rfl⟩
def Pt.shift (p : Pt) (by_ : Int) : Pt := ⟨lat p.t by_, p.r, p.w⟩
theorem Pt.shift_in {p : Pt} (h : p.In) (d : Int) : (p.shift d).In := ⟨lat_in _ _, h.2⟩
theorem pshift_ret (p : Pt) (d : Int) (w0 : World) : Ret Tryz.prog 156 #[pv p, .int .u64 d] w0 fun v w' => v = pv (p.shift d) ∧ Only [] w0 w' := by
  have hs := St.nil w0
  refine ret_of_xc Tryz.func156 (by kernel_rfl) rfl Tryz.ntmps156 rfl rfl rfl ?_
  repeat' (first|refine vs (k:=?_)|refine ps (k:=?_)|((first|refine st hs (k:=?_)|refine stA hs (k:=?_));intro w hs)|((first|refine al hs (k:=?_)|refine bx hs (k:=?_)|refine bs hs (k:=?_));intro b w hz hs)|refine qRg ?_|refine Nx.h ?_|refine qBo ?_|refine qCt ?_|refine qCf ?_|((with_reducible apply xs_guard);exact rfl;exact rfl;intro c hc;(fail_if_success have:true=c:=hc);(fail_if_success have:false=c:=hc);cases c)|(refine xc_if rfl (fun hc=>?_) (fun hc=>?_))|(refine xc_cond rfl (fun hc=>?_) (fun hc=>?_)))
  first | refine rt (hq := ?_) | refine rt' (hq := ?_)
  refine ⟨?_, hs.only0 rfl⟩
  unfold Pt.shift pv lat packed
  rw [wrap_u64]
end Go.Proofs.YtegoaabjccignaaGreatDoorX

namespace Go.Proofs.YtegoaabjccignaaGreatDoorX
open Go Go.RowKit
attribute [local irreducible] XS XC XA thenE blockE retE loopE loopS cutB cutN doneE SE
structure It where
  p : Pt
  id : Int
  d : Pt
deriving DecidableEq
abbrev It.cells (a : It) : List Value := [.int .u64 a.p.t, .int .u32 a.p.r, .int .u32 a.p.w, .int .i64 a.id, .int .u64 a.d.t, .int .u32 a.d.r, .int .u32 a.d.w]
def iv (a : It) : Value := .agg #[.int .u64 a.p.t, .int .u32 a.p.r, .int .u32 a.p.w, .int .i64 a.id, .int .u64 a.d.t, .int .u32 a.d.r, .int .u32 a.d.w]
def It.In (a : It) : Prop := a.p.In ∧ In64 a.id ∧ a.d.In
instance (a : It) : Decidable a.In := by unfold It.In; infer_instance
def It.zero : It := ⟨.zero, 0, .zero⟩
def It.right (a : It) : Bool := a.p.right && a.d.right && decide (a.p.w = a.d.w) && decide (0 < a.id) && decide (0 ≤ sn a.d.t a.p.t) && decide (sn a.d.t a.p.t ≤ 1152921504606846976)
set_option maxHeartbeats 1000000 in
theorem iright_ret (a : It) (w0 : World) : Ret Tryz.prog 49 #[iv a] w0 fun v w' => v = .bool a.right ∧ Only [] w0 w' := by
  have hs := St.nil w0
  refine ret_of_xc Tryz.func49 (by kernel_rfl) rfl Tryz.ntmps49 rfl rfl rfl ?_
  repeat' (first|refine vs (k:=?_)|refine ps (k:=?_)|((first|refine st hs (k:=?_)|refine stA hs (k:=?_));intro w hs)|((first|refine al hs (k:=?_)|refine bx hs (k:=?_)|refine bs hs (k:=?_));intro b w hz hs)|refine qRg ?_|refine Nx.h ?_|refine qBo ?_|refine qCt ?_|refine qCf ?_|((with_reducible apply xs_guard);exact rfl;exact rfl;intro c hc;(fail_if_success have:true=c:=hc);(fail_if_success have:false=c:=hc);cases c)|(refine xc_if rfl (fun hc=>?_) (fun hc=>?_))|(refine xc_cond rfl (fun hc=>?_) (fun hc=>?_)))
  (with_reducible apply xs_call); exact rfl; exact rfl; exact since_ret a.d.t a.p.t _
  rintro v w' ⟨rfl, ho⟩; replace hs := hs.call0 ho; repeat' (first|refine vs (k:=?_)|refine ps (k:=?_)|((first|refine st hs (k:=?_)|refine stA hs (k:=?_));intro w hs)|((first|refine al hs (k:=?_)|refine bx hs (k:=?_)|refine bs hs (k:=?_));intro b w hz hs)|refine qRg ?_|refine Nx.h ?_|refine qBo ?_|refine qCt ?_|refine qCf ?_|((with_reducible apply xs_guard);exact rfl;exact rfl;intro c hc;(fail_if_success have:true=c:=hc);(fail_if_success have:false=c:=hc);cases c)|(refine xc_if rfl (fun hc=>?_) (fun hc=>?_))|(refine xc_cond rfl (fun hc=>?_) (fun hc=>?_)))
  (with_reducible apply xs_call); exact rfl; exact rfl; exact pright_ret a.p _
  rintro v w' ⟨rfl, ho⟩; replace hs := hs.call0 ho; repeat' (first|refine vs (k:=?_)|refine ps (k:=?_)|((first|refine st hs (k:=?_)|refine stA hs (k:=?_));intro w hs)|((first|refine al hs (k:=?_)|refine bx hs (k:=?_)|refine bs hs (k:=?_));intro b w hz hs)|refine qRg ?_|refine Nx.h ?_|refine qBo ?_|refine qCt ?_|refine qCf ?_|((with_reducible apply xs_guard);exact rfl;exact rfl;intro c hc;(fail_if_success have:true=c:=hc);(fail_if_success have:false=c:=hc);cases c)|(refine xc_if rfl (fun hc=>?_) (fun hc=>?_))|(refine xc_cond rfl (fun hc=>?_) (fun hc=>?_)))
  · first | refine rt (hq := ?_) | refine rt' (hq := ?_)
    refine ⟨?_, hs.only0 rfl⟩
    clear hs
    unfold It.right packed
    simp_all
  · (with_reducible apply xs_call); exact rfl; exact rfl; exact pright_ret a.d _
    rintro v w' ⟨rfl, ho⟩; replace hs := hs.call0 ho; repeat' (first|refine vs (k:=?_)|refine ps (k:=?_)|((first|refine st hs (k:=?_)|refine stA hs (k:=?_));intro w hs)|((first|refine al hs (k:=?_)|refine bx hs (k:=?_)|refine bs hs (k:=?_));intro b w hz hs)|refine qRg ?_|refine Nx.h ?_|refine qBo ?_|refine qCt ?_|refine qCf ?_|((with_reducible apply xs_guard);exact rfl;exact rfl;intro c hc;(fail_if_success have:true=c:=hc);(fail_if_success have:false=c:=hc);cases c)|(refine xc_if rfl (fun hc=>?_) (fun hc=>?_))|(refine xc_cond rfl (fun hc=>?_) (fun hc=>?_)))
    all_goals (first | refine rt (hq := ?_) | refine rt' (hq := ?_))
    all_goals refine ⟨?_, hs.only0 rfl⟩
    all_goals clear hs
    all_goals (unfold It.right packed; simp_all <;> omega)
def ahead (a b : It) : Bool := decide (cmpP a.p b.p < 0) || (decide (cmpP a.p b.p = 0) && decide (a.id < b.id))
set_option maxHeartbeats 1000000 in
theorem ahead_ret (x y : It) (ha : x.In) (hb : y.In) (w0 : World) : Ret Tryz.prog 78 #[iv x, iv y] w0 fun v w' => v = .bool (ahead x y) ∧ Only [] w0 w' := by
  have hs := St.nil w0
  refine ret_of_xc Tryz.func78 (by kernel_rfl) rfl Tryz.ntmps78 rfl rfl rfl ?_
  repeat' (first|refine vs (k:=?_)|refine ps (k:=?_)|((first|refine st hs (k:=?_)|refine stA hs (k:=?_));intro w hs)|((first|refine al hs (k:=?_)|refine bx hs (k:=?_)|refine bs hs (k:=?_));intro b w hz hs)|refine qRg ?_|refine Nx.h ?_|refine qBo ?_|refine qCt ?_|refine qCf ?_|((with_reducible apply xs_guard);exact rfl;exact rfl;intro c hc;(fail_if_success have:true=c:=hc);(fail_if_success have:false=c:=hc);cases c)|(refine xc_if rfl (fun hc=>?_) (fun hc=>?_))|(refine xc_cond rfl (fun hc=>?_) (fun hc=>?_)))
  (with_reducible apply xs_call); exact rfl; exact rfl; exact pcmp_ret x.p y.p ha.1 hb.1 _
  rintro v w' ⟨rfl, ho⟩; replace hs := hs.call0 ho; repeat' (first|refine vs (k:=?_)|refine ps (k:=?_)|((first|refine st hs (k:=?_)|refine stA hs (k:=?_));intro w hs)|((first|refine al hs (k:=?_)|refine bx hs (k:=?_)|refine bs hs (k:=?_));intro b w hz hs)|refine qRg ?_|refine Nx.h ?_|refine qBo ?_|refine qCt ?_|refine qCf ?_|((with_reducible apply xs_guard);exact rfl;exact rfl;intro c hc;(fail_if_success have:true=c:=hc);(fail_if_success have:false=c:=hc);cases c)|(refine xc_if rfl (fun hc=>?_) (fun hc=>?_))|(refine xc_cond rfl (fun hc=>?_) (fun hc=>?_)))
  all_goals (first | refine rt (hq := ?_) | refine rt' (hq := ?_))
  all_goals refine ⟨?_, hs.only0 rfl⟩
  all_goals clear hs
  all_goals (unfold ahead packed; simp_all)
def due (a b : It) : Bool := decide (cmpP a.d b.d < 0) || (decide (cmpP a.d b.d = 0) && ahead a b)
set_option maxHeartbeats 1000000 in
theorem due_ret (x y : It) (ha : x.In) (hb : y.In) (w0 : World) : Ret Tryz.prog 141 #[iv x, iv y] w0 fun v w' => v = .bool (due x y) ∧ Only [] w0 w' := by
  have hs := St.nil w0
  refine ret_of_xc Tryz.func141 (by kernel_rfl) rfl Tryz.ntmps141 rfl rfl rfl ?_
  repeat' (first|refine vs (k:=?_)|refine ps (k:=?_)|((first|refine st hs (k:=?_)|refine stA hs (k:=?_));intro w hs)|((first|refine al hs (k:=?_)|refine bx hs (k:=?_)|refine bs hs (k:=?_));intro b w hz hs)|refine qRg ?_|refine Nx.h ?_|refine qBo ?_|refine qCt ?_|refine qCf ?_|((with_reducible apply xs_guard);exact rfl;exact rfl;intro c hc;(fail_if_success have:true=c:=hc);(fail_if_success have:false=c:=hc);cases c)|(refine xc_if rfl (fun hc=>?_) (fun hc=>?_))|(refine xc_cond rfl (fun hc=>?_) (fun hc=>?_)))
  (with_reducible apply xs_call); exact rfl; exact rfl; exact pcmp_ret x.d y.d ha.2.2 hb.2.2 _
  rintro v w' ⟨rfl, ho⟩; replace hs := hs.call0 ho; repeat' (first|refine vs (k:=?_)|refine ps (k:=?_)|((first|refine st hs (k:=?_)|refine stA hs (k:=?_));intro w hs)|((first|refine al hs (k:=?_)|refine bx hs (k:=?_)|refine bs hs (k:=?_));intro b w hz hs)|refine qRg ?_|refine Nx.h ?_|refine qBo ?_|refine qCt ?_|refine qCf ?_|((with_reducible apply xs_guard);exact rfl;exact rfl;intro c hc;(fail_if_success have:true=c:=hc);(fail_if_success have:false=c:=hc);cases c)|(refine xc_if rfl (fun hc=>?_) (fun hc=>?_))|(refine xc_cond rfl (fun hc=>?_) (fun hc=>?_)))
  · first | refine rt (hq := ?_) | refine rt' (hq := ?_)
    refine ⟨?_, hs.only0 rfl⟩
    clear hs
    unfold due packed; simp_all
  · (with_reducible apply xs_call); exact rfl; exact rfl; exact ahead_ret x y ha hb _
    rintro v w' ⟨rfl, ho⟩; replace hs := hs.call0 ho; repeat' (first|refine vs (k:=?_)|refine ps (k:=?_)|((first|refine st hs (k:=?_)|refine stA hs (k:=?_));intro w hs)|((first|refine al hs (k:=?_)|refine bx hs (k:=?_)|refine bs hs (k:=?_));intro b w hz hs)|refine qRg ?_|refine Nx.h ?_|refine qBo ?_|refine qCt ?_|refine qCf ?_|((with_reducible apply xs_guard);exact rfl;exact rfl;intro c hc;(fail_if_success have:true=c:=hc);(fail_if_success have:false=c:=hc);cases c)|(refine xc_if rfl (fun hc=>?_) (fun hc=>?_))|(refine xc_cond rfl (fun hc=>?_) (fun hc=>?_)))
    first | refine rt (hq := ?_) | refine rt' (hq := ?_)
    refine ⟨?_, hs.only0 rfl⟩
    clear hs
    unfold due packed; simp_all
  · first | refine rt (hq := ?_) | refine rt' (hq := ?_)
    refine ⟨?_, hs.only0 rfl⟩
    clear hs
    unfold due packed; simp_all
end Go.Proofs.YtegoaabjccignaaGreatDoorX

namespace Go.Proofs.YtegoaabjccignaaGreatDoorX
open Go Go.RowKit
section
variable {P : Program} {ops : Array Oper} {QE : Exit → Env → World → Prop} {n : Nat} {rest : List Oper} {env : Env} {w wb : World} {D : Ctx} {H : List Ent} {T : Tab}
  {d : Option Nat} {ty : Nat} {pos : String} {aft : Array Edge} {g : Option (Nat × Bool)}
theorem append_many {t e size bytes : Nat} (hu : P.underlying t = some (.slice e)) {i : TypeInfo} (hi : P.info? e = some i) (hs1 : i.size = size) (hs2 : i.bytes = bytes) {z : Value} (hz : i.zero = some z) (hzc : z.cells.size = size)
    {v : Value} {k : Nat} {xs news : List Value} {a : Addr} {c m : Nat} (hO : OwnS wb D H e size v k xs w) (hl : news.length = c * size) (hc0 : 0 < c) (hcs : ∀ (j : Nat) u, news[j]? = some u → w.cell? (a.add j) = some u) (h1 : ∀ u ∈ news, u.oneCell' = true)
    (hk : (k + c) * bytes ≤ 140737488355328) (hk' : k + c ≤ 9223372036854775807) :
    ∃ v' w', (Builtin.append_ #[t, t] ty #[v, .slice (some a) c m]).run P w = .ok v' w' ∧ OwnS wb D H e size v' (k + c) (xs ++ news) w' ∧ v' ≠ .slice none 0 0 := by
  subst hs1 hs2
  have hcb : c * i.bytes ≤ 281474976710656 := by
    have := Nat.mul_le_mul_right i.bytes (show c ≤ k + c by omega)
    omega
  rcases hO with ⟨rfl, rfl, rfl, hs⟩ | ⟨g, cap, cur, rfl, hc, hcl, hxl, htk, hs⟩
  · have hr := run_append_nil (P := P) w t ty e i z hu hi hz a c m news hl hcs hc0 (by omega) hcb
    refine ⟨_, _, hr, .inr ⟨w.heap.size, grownCap w c 0 e, (news.toArray ++ Builtin.zeroCells z.cells (grownCap w c 0 e - c)).toList, by rw [Nat.zero_add], by rw [Nat.zero_add]; exact grownCap_ge w c 0 e, ?_, ?_, ?_, hs.drew'.alloc _⟩, by simp⟩
    · have := grownCap_ge w c 0 e
      simp only [Array.toList_append, List.length_append, zero_list, hzc, hl]
      rw [← Nat.add_mul]; congr 1; omega
    · rw [Nat.zero_add, List.nil_append, hl]
    · rw [List.nil_append, Nat.zero_add, Array.toList_append, List.take_append_of_le_length (by simp [hl])]
      exact List.take_of_length_le (by simp [hl])
  · have hg := hs.get At.head
    by_cases hroom : k + c ≤ cap
    · have hfit : k * i.size + news.length ≤ cur.toArray.size := by
        rw [hl, List.size_toArray, hcl, ← Nat.add_mul]; exact Nat.mul_le_mul_right _ hroom
      have hr := run_append_room (P := P) w t ty e i hu hi g k cap cur.toArray hg a c m news hl hcs h1 hroom hfit
      simp only [List.size_toArray] at hfit
      refine ⟨_, _, hr, .inr ⟨g, cap, (cur.take (k * i.size) ++ news ++ cur.drop (k * i.size + news.length)), rfl, hroom, ?_, ?_, ?_, hs.row At.head _⟩, by simp⟩
      · simp only [List.length_append, List.length_take, List.length_drop]
        omega
      · rw [List.length_append, hxl, hl, Nat.add_mul]
      · rw [List.append_assoc, ← List.append_assoc, htk, List.take_append_of_le_length (by rw [List.length_append, hxl, hl, Nat.add_mul]; exact Nat.le_refl _)]
        exact List.take_of_length_le (by rw [List.length_append, hxl, hl, Nat.add_mul]; exact Nat.le_refl _)
    · have hold : ∀ (j : Nat) u, xs[j]? = some u → w.cell? ((⟨g, 0, none⟩ : Addr).add j) = some u := fun j u hj => by
        rw [add_addr]
        rw [← htk, List.getElem?_take] at hj
        split at hj
        · simp [World.cell?, hg, hj]
        · cases hj
      have hr := run_append_grow (P := P) w t ty e i z hu hi hz ⟨g, 0, none⟩ k cap xs hxl hold a c m news hl hcs (by omega) (by omega) (growslice_fits (by omega) hk)
      have hge := grownCap_ge w (k + c) cap e
      refine ⟨_, _, hr, .inr ⟨w.heap.size, grownCap w (k + c) cap e, (xs.toArray ++ news.toArray ++ Builtin.zeroCells z.cells (grownCap w (k + c) cap e - (k + c))).toList, rfl, hge, ?_, ?_, ?_, (hs.drew'.alloc _).swap.forgetNew⟩, by simp⟩
      · simp only [Array.toList_append, List.length_append, zero_list, hzc, hl, hxl]
        rw [← Nat.add_mul, ← Nat.add_mul]; congr 1; omega
      · rw [List.length_append, hxl, hl, Nat.add_mul]
      · rw [Array.toList_append, Array.toList_append, List.take_append_of_le_length (by simp [hxl, hl, Nat.add_mul])]
        exact List.take_of_length_le (by simp [hxl, hl, Nat.add_mul])
theorem xs_appendS (hT : TabOk P T) {t e size bytes : Nat} {zs news : List Value} {x y : Operand} {v : Value} {k c m : Nat} {a : Addr} {xs : List Value} (hw : wantedE ops env g = true) (hsl : look t T.sls = some (e, size, bytes)) (hz : look e T.zs = some zs) (hzl : Nat.beq zs.length size = true)
    (hx : ev env x = v) (hy : ev env y = .slice (some a) c m) (hl : news.length = c * size) (hc0 : 0 < c) (hcs : ∀ (j : Nat) u, news[j]? = some u → w.cell? (a.add j) = some u) (h1 : ∀ u ∈ news, u.oneCell' = true) (hO : OwnS wb D H e size v k xs w)
    (hk : (k + c) * bytes ≤ 140737488355328) (hk' : k + c ≤ 9223372036854775807) (kk : ∀ v' w', OwnS wb D H e size v' (k + c) (xs ++ news) w' → v' ≠ .slice none 0 0 → XS P ops QE n rest (updO env d v') w') :
    XS P ops QE n (⟨d, .call { callee := .builtin .append, args := #[x, y], argTypes := #[t, t] }, ty, pos, aft, g⟩ :: rest) env w := by
  obtain ⟨hu, i, hi, hs1, hs2⟩ := sl_parts (hT.sl hsl)
  obtain ⟨i', z, hi', hz', hzc⟩ := z_parts (hT.z hz)
  rw [hi] at hi'; cases hi'
  obtain ⟨v', w', hr, h2, h3⟩ := append_many (P := P) (ty := ty) (m := m) hu hi hs1 hs2 hz' (by rw [hzc]; simpa using Nat.eq_of_beq_eq_true hzl) hO hl hc0 hcs h1 hk hk'
  refine XS.value hw (v := v') (w' := w') ?_ (kk v' w' h2 h3)
  simp [execOp, resolve, Sem.run_bind, invoke, builtin, hx, hy, hr]
theorem xs_buildSlice0 (hT : TabOk P T) {t e size bytes : Nat} (hw : wantedE ops env g = true) (hsl : look t T.sls = some (e, size, bytes)) (hs : St wb D H w)
    (k : ∀ v w', OwnS wb D H e size v 0 [] w' → v ≠ .slice none 0 0 → XS P ops QE n rest (updO env d v) w') :
    XS P ops QE n (⟨d, .buildSlice t 0 #[], ty, pos, aft, g⟩ :: rest) env w := by
  obtain ⟨hu, i, hi, hs1, hs2⟩ := sl_parts (hT.sl hsl)
  refine XS.value hw (w' := { w with heap := w.heap.push (.cells #[] e) }) (v := .slice (some ⟨w.heap.size, 0, none⟩) 0 0) ?_ (k _ _ (.inr ⟨w.heap.size, 0, [], rfl, Nat.le_refl _, by simp, by simp, by simp, hs.alloc _⟩) (by simp))
  simp only [execOp, Sem.run_bind, Instr.buildSlice, run_underlying' hu, Result.andThen_ok, sizeOf, run_typeInfo' hi, Sem.run_pure]
  simp [Instr.fill, newRow, newObj, Sem.run, Sem.run_bind]
  rw [show (Array.range 0).map (fun _ => (default : Value)) = #[] by simp [Array.range]]
theorem St.rebase (hs : St wb D H w) : St w D0 (H.map fun e => (e.1, e.2.1, false)) w where
  at_ := fun e he => by
    obtain ⟨e', he', rfl⟩ := List.mem_map.1 he
    exact hs.at_ e' he'
  nd := by rw [List.map_map]; exact hs.nd
  new := fun p hp h => by
    obtain ⟨e, he, rfl⟩ := List.mem_map.1 hp
    obtain ⟨e', he', rfl⟩ := List.mem_map.1 he
    cases h
  os := rfl
  tape := rfl
  output := rfl
  size := Nat.le_refl _
  frame := fun _ _ _ _ => rfl
  ro := by simp [D0]
  ap := by simp [D0]
end
theorem St.onlyF {wb w : World} {D : Ctx} {H : List Ent} (hs : St wb D H w) (F : List Nat) (hF : ∀ e ∈ H, e.2.2 = true ∨ e.1 ∈ F ∨ wb.heap[e.1]? = some e.2.1) (hD : ∀ k ∈ D.dirty, k ∈ F) : Only F wb w :=
  ⟨hs.os, hs.tape, hs.output, hs.size, fun k hk hn => by
    by_cases h1 : k ∈ H.map (·.1)
    · obtain ⟨e, he, rfl⟩ := List.mem_map.1 h1
      rcases hF e he with h | h | h
      · exact absurd hk (Nat.not_lt.2 (hs.new (e.1, e.2.2) (List.mem_map.2 ⟨e, he, rfl⟩) h))
      · exact absurd h hn
      · rw [hs.at_ e he, h]
    · exact hs.frame k hk (fun h => hn (hD k h)) h1⟩
theorem Only.step {w0 w1 w2 : World} {F G : List Nat} (h : Only F w0 w1) (k : Only G w1 w2) (hG : ∀ k ∈ G, k ∈ F ∨ w0.heap.size ≤ k) : Only F w0 w2 :=
  (h.trans k).mono fun k hk hm => by
    rcases List.mem_append.1 hm with hm | hm
    · exact hm
    · rcases hG k hm with h | h
      · exact h
      · omega
theorem blocks_ne {w : World} {a b : Nat} {ca cb : Array Value} {ta tb : TypeId} {fa fb : Nat × Nat} (h : w.heap[a]? = some (.cells ca ta fa)) (k : w.heap[b]? = some (.cells cb tb fb)) (hne : ta ≠ tb) : a ≠ b := fun e => by
  subst e
  rw [h] at k
  cases k
  exact hne rfl
end Go.Proofs.YtegoaabjccignaaGreatDoorX

namespace Go.Proofs.YtegoaabjccignaaGreatDoorX
open Go Go.RowKit
def SlV (w : World) (e k : Nat) (v : Value) (n : Nat) (xs : List Value) (G : List Nat) : Prop :=
  (v = .slice none 0 0 ∧ n = 0 ∧ xs = [] ∧ G = []) ∨
  ∃ (g cap : Nat) (cur : List Value), v = .slice (some ⟨g, 0, none⟩) n cap ∧ G = [g] ∧ n ≤ cap ∧ cur.length = cap * k ∧ xs.length = n * k ∧ cur.take (n * k) = xs ∧ w.heap[g]? = some (.cells cur.toArray e (0, 0))
section
variable {P : Program} {ops : Array Oper} {QE : Exit → Env → World → Prop} {n : Nat} {rest : List Oper} {env : Env} {w wb : World} {D : Ctx} {H : List Ent} {T : Tab}
  {d : Option Nat} {ty : Nat} {pos : String} {aft : Array Edge} {g : Option (Nat × Bool)}
theorem append_w {t e size bytes : Nat} (hu : P.underlying t = some (.slice e)) {i : TypeInfo} (hi : P.info? e = some i) (hs1 : i.size = size) (hs2 : i.bytes = bytes) {z : Value} (hz : i.zero = some z) (hzc : z.cells.size = size)
    {v : Value} {k : Nat} {xs news : List Value} {a : Addr} {c m : Nat} {G : List Nat} (hO : SlV w e size v k xs G) (hl : news.length = c * size) (hc0 : 0 < c) (hcs : ∀ (j : Nat) u, news[j]? = some u → w.cell? (a.add j) = some u) (h1 : ∀ u ∈ news, u.oneCell' = true)
    (hk : (k + c) * bytes ≤ 140737488355328) (hk' : k + c ≤ 9223372036854775807) :
    ∃ v' w', (Builtin.append_ #[t, t] ty #[v, .slice (some a) c m]).run P w = .ok v' w' ∧ (∃ G', SlV w' e size v' (k + c) (xs ++ news) G' ∧ ∀ i ∈ G', i ∈ G ∨ w.heap.size ≤ i) ∧ Only G w w' := by
  subst hs1 hs2
  have hcb : c * i.bytes ≤ 281474976710656 := by
    have := Nat.mul_le_mul_right i.bytes (show c ≤ k + c by omega)
    omega
  rcases hO with ⟨rfl, rfl, rfl, rfl⟩ | ⟨g, cap, cur, rfl, rfl, hc, hcl, hxl, htk, hg⟩
  · have hr := run_append_nil (P := P) w t ty e i z hu hi hz a c m news hl hcs hc0 (by omega) hcb
    have hs := (St.nil w).drew'.alloc (.cells (news.toArray ++ Builtin.zeroCells z.cells (grownCap w c 0 e - c)) e)
    refine ⟨_, _, hr, ⟨[w.heap.size], .inr ⟨w.heap.size, grownCap w c 0 e, (news.toArray ++ Builtin.zeroCells z.cells (grownCap w c 0 e - c)).toList, by rw [Nat.zero_add], rfl, by rw [Nat.zero_add]; exact grownCap_ge w c 0 e, ?_, ?_, ?_, hs.get At.head⟩, by simp⟩, hs.only0 rfl⟩
    · have := grownCap_ge w c 0 e
      simp only [Array.toList_append, List.length_append, zero_list, hzc, hl]
      rw [← Nat.add_mul]; congr 1; omega
    · rw [Nat.zero_add, List.nil_append, hl]
    · rw [List.nil_append, Nat.zero_add, Array.toList_append, List.take_append_of_le_length (by simp [hl])]
      exact List.take_of_length_le (by simp [hl])
  · have hs0 := (St.nil w).track hg (by simp)
    by_cases hroom : k + c ≤ cap
    · have hfit : k * i.size + news.length ≤ cur.toArray.size := by
        rw [hl, List.size_toArray, hcl, ← Nat.add_mul]; exact Nat.mul_le_mul_right _ hroom
      have hr := run_append_room (P := P) w t ty e i hu hi g k cap cur.toArray hg a c m news hl hcs h1 hroom hfit
      simp only [List.size_toArray] at hfit
      have hs := hs0.row At.head (cur.take (k * i.size) ++ news ++ cur.drop (k * i.size + news.length)).toArray
      refine ⟨_, _, hr, ⟨[g], .inr ⟨g, cap, (cur.take (k * i.size) ++ news ++ cur.drop (k * i.size + news.length)), rfl, rfl, hroom, ?_, ?_, ?_, hs.get At.head⟩, by simp⟩, hs.onlyF [g] (by simp) (by simp [D0])⟩
      · simp only [List.length_append, List.length_take, List.length_drop]
        omega
      · rw [List.length_append, hxl, hl, Nat.add_mul]
      · rw [List.append_assoc, ← List.append_assoc, htk, List.take_append_of_le_length (by rw [List.length_append, hxl, hl, Nat.add_mul]; exact Nat.le_refl _)]
        exact List.take_of_length_le (by rw [List.length_append, hxl, hl, Nat.add_mul]; exact Nat.le_refl _)
    · have hold : ∀ (j : Nat) u, xs[j]? = some u → w.cell? ((⟨g, 0, none⟩ : Addr).add j) = some u := fun j u hj => by
        rw [add_addr]
        rw [← htk, List.getElem?_take] at hj
        split at hj
        · simp [World.cell?, hg, hj]
        · cases hj
      have hr := run_append_grow (P := P) w t ty e i z hu hi hz ⟨g, 0, none⟩ k cap xs hxl hold a c m news hl hcs (by omega) (by omega) (growslice_fits (by omega) hk)
      have hge := grownCap_ge w (k + c) cap e
      have hs := hs0.drew'.alloc (.cells (xs.toArray ++ news.toArray ++ Builtin.zeroCells z.cells (grownCap w (k + c) cap e - (k + c))) e)
      refine ⟨_, _, hr, ⟨[w.heap.size], .inr ⟨w.heap.size, grownCap w (k + c) cap e, (xs.toArray ++ news.toArray ++ Builtin.zeroCells z.cells (grownCap w (k + c) cap e - (k + c))).toList, rfl, rfl, hge, ?_, ?_, ?_, hs.get At.head⟩, by simp⟩, hs.onlyF [g] (by simp) (by simp [D0])⟩
      · simp only [Array.toList_append, List.length_append, zero_list, hzc, hl, hxl]
        rw [← Nat.add_mul, ← Nat.add_mul]; congr 1; omega
      · rw [List.length_append, hxl, hl, Nat.add_mul]
      · rw [Array.toList_append, Array.toList_append, List.take_append_of_le_length (by simp [hxl, hl, Nat.add_mul])]
        exact List.take_of_length_le (by simp [hxl, hl, Nat.add_mul])
theorem xs_appendW (hT : TabOk P T) {t e size bytes : Nat} {zs news : List Value} {x y : Operand} {v : Value} {k c m : Nat} {a : Addr} {xs : List Value} {G : List Nat} (hw : wantedE ops env g = true) (hsl : look t T.sls = some (e, size, bytes)) (hz : look e T.zs = some zs) (hzl : Nat.beq zs.length size = true)
    (hx : ev env x = v) (hy : ev env y = .slice (some a) c m) (hl : news.length = c * size) (hc0 : 0 < c) (hcs : ∀ (j : Nat) u, news[j]? = some u → w.cell? (a.add j) = some u) (h1 : ∀ u ∈ news, u.oneCell' = true) (hO : SlV w e size v k xs G)
    (hk : (k + c) * bytes ≤ 140737488355328) (hk' : k + c ≤ 9223372036854775807) (kk : ∀ v' w', (∃ G', SlV w' e size v' (k + c) (xs ++ news) G' ∧ ∀ i ∈ G', i ∈ G ∨ w.heap.size ≤ i) → Only G w w' → XS P ops QE n rest (updO env d v') w') :
    XS P ops QE n (⟨d, .call { callee := .builtin .append, args := #[x, y], argTypes := #[t, t] }, ty, pos, aft, g⟩ :: rest) env w := by
  obtain ⟨hu, i, hi, hs1, hs2⟩ := sl_parts (hT.sl hsl)
  obtain ⟨i', z, hi', hz', hzc⟩ := z_parts (hT.z hz)
  rw [hi] at hi'; cases hi'
  obtain ⟨v', w', hr, h2, h3⟩ := append_w (P := P) (ty := ty) (m := m) hu hi hs1 hs2 hz' (by rw [hzc]; simpa using Nat.eq_of_beq_eq_true hzl) hO hl hc0 hcs h1 hk hk'
  refine XS.value hw (v := v') (w' := w') ?_ (kk v' w' h2 h3)
  simp [execOp, resolve, Sem.run_bind, invoke, builtin, hx, hy, hr]
end
theorem SlV.lt {w : World} {e k n : Nat} {v : Value} {xs : List Value} {G : List Nat} (h : SlV w e k v n xs G) : ∀ b ∈ G, b < w.heap.size := by
  rcases h with ⟨_, _, _, rfl⟩ | ⟨g, cap, cur, _, rfl, _, _, _, _, hg⟩
  · intro b hb; cases hb
  · intro b hb
    obtain rfl := List.mem_singleton.1 hb
    exact lt_of_block hg
theorem SlV.keep {w w' : World} {e k n : Nat} {v : Value} {xs : List Value} {G F : List Nat} (h : SlV w e k v n xs G) (ho : Only F w w') (hd : ∀ b ∈ G, b ∉ F) : SlV w' e k v n xs G := by
  rcases h with ⟨h1, h2, h3, h4⟩ | ⟨g, cap, cur, h1, rfl, h3, h4, h5, h6, hg⟩
  · exact .inl ⟨h1, h2, h3, h4⟩
  · exact .inr ⟨g, cap, cur, h1, rfl, h3, h4, h5, h6, ho.block hg (hd g List.mem_cons_self)⟩
end Go.Proofs.YtegoaabjccignaaGreatDoorX

namespace Go.Proofs.YtegoaabjccignaaGreatDoorX
open Go Go.RowKit
def LsAt (w : World) (E k : Nat) (v : Value) (xs : List (List Value)) : Prop :=
  ∃ ad cap, v = .slice ad xs.length cap ∧ (xs ≠ [] → ∃ (b off : Nat) (cs : List Value) (fz : Nat × Nat), ad = some ⟨b, off, none⟩ ∧ xs.length ≤ cap ∧ w.heap[b]? = some (.cells cs.toArray E fz) ∧ ∀ (i : Nat) x, xs[i]? = some x → Pick cs (off + i * k) k x)
theorem LsAt.nil (w : World) (E k : Nat) : LsAt w E k (.slice none 0 0) [] := ⟨none, 0, rfl, fun h => absurd rfl h⟩
theorem LsAt.keep {w w' : World} {E k : Nat} {v : Value} {xs : List (List Value)} {F : List Nat} (h : LsAt w E k v xs) (ho : Only F w w') (hF : ∀ b ∈ F, ∀ cs fz, w.heap[b]? ≠ some (.cells cs E fz)) : LsAt w' E k v xs := by
  obtain ⟨ad, cap, rfl, h⟩ := h
  refine ⟨ad, cap, rfl, fun hn => ?_⟩
  obtain ⟨b, off, cs, fz, h1, h2, h3, h4⟩ := h hn
  exact ⟨b, off, cs, fz, h1, h2, ho.block h3 (fun hm => hF b hm _ _ h3), h4⟩
theorem LsAt.only {w w' : World} {E k : Nat} {v : Value} {xs : List (List Value)} (h : LsAt w E k v xs) (ho : Only [] w w') : LsAt w' E k v xs := h.keep ho (by simp)
theorem pick_of {cs : List Value} : ∀ {vs : List Value} {off m : Nat}, vs.length = m → (cs.drop off).take m = vs → Pick cs off m vs
  | [], off, m, hm, h => by subst hm; exact .nil
  | v :: vs, off, m, hm, h => by
    subst hm
    have hlt : off < cs.length := by
      rcases Nat.lt_or_ge off cs.length with h' | h'
      · exact h'
      · rw [List.drop_eq_nil_of_le h'] at h; simp at h
    rw [List.drop_eq_getElem_cons hlt] at h
    simp only [List.length_cons, List.take_succ_cons, List.cons.injEq] at h
    exact .cons (by rw [List.getElem?_eq_getElem hlt, h.1]) (pick_of rfl h.2)
theorem flat_row {k : Nat} : ∀ {xs : List (List Value)} {i : Nat} {x : List Value}, (∀ y ∈ xs, y.length = k) → xs[i]? = some x → (xs.flatten.drop (i * k)).take k = x
  | [], i, x, _, h => by simp at h
  | y :: xs, 0, x, hk, h => by
    have h1 := hk y (by simp)
    simp only [List.getElem?_cons_zero, Option.some.injEq] at h
    subst h; subst h1
    simp
  | y :: xs, i + 1, x, hk, h => by
    have h1 := hk y (by simp)
    simp only [List.getElem?_cons_succ] at h
    have ih := flat_row (fun z hz => hk z (List.mem_cons_of_mem _ hz)) h
    rw [List.flatten_cons, List.drop_append, List.drop_eq_nil_of_le (by rw [h1, Nat.succ_mul]; omega), List.nil_append, h1, Nat.succ_mul, Nat.add_sub_cancel]
    exact ih
theorem SlV.ls {w : World} {E k n : Nat} {v : Value} {flat : List Value} {G : List Nat} (h : SlV w E k v n flat G) {xs : List (List Value)} (hf : flat = xs.flatten) (hn : n = xs.length) (hk : ∀ x ∈ xs, x.length = k) : LsAt w E k v xs := by
  subst hn
  rcases h with ⟨rfl, h0, hx, _⟩ | ⟨g, cap, cur, rfl, _, hc, hl, hxl, ht, hg⟩
  · have : xs = [] := by simpa using h0
    subst this
    exact LsAt.nil w E k
  · refine ⟨_, cap, rfl, fun _ => ⟨g, 0, cur, (0, 0), rfl, hc, hg, fun i x hi => ?_⟩⟩
    have hi' : i < xs.length := by
      rcases Nat.lt_or_ge i xs.length with h | h
      · exact h
      · rw [List.getElem?_eq_none h] at hi; cases hi
    have hxk := hk x (List.mem_of_getElem? hi)
    refine pick_of hxk ?_
    have e := flat_row hk hi
    rw [← hf, ← ht, List.drop_take, List.take_take, Nat.min_eq_left] at e
    · rw [Nat.zero_add]; exact e
    · rw [← Nat.sub_mul]
      exact Nat.le_mul_of_pos_left k (by omega)
def minL : List Int → Int
  | [] => 0
  | d :: l => l.foldl (fun a b => if b < a then b else a) d
def maxL : List Int → Int
  | [] => 0
  | d :: l => l.foldl (fun a b => if b > a then b else a) d
theorem minL_snoc (l : List Int) (d : Int) : minL (l ++ [d]) = if l = [] then d else if d < minL l then d else minL l := by
  cases l with
  | nil => rfl
  | cons a l => exact (List.foldl_append ..)
theorem maxL_snoc (l : List Int) (d : Int) : maxL (l ++ [d]) = if l = [] then d else if d > maxL l then d else maxL l := by
  cases l with
  | nil => rfl
  | cons a l => exact (List.foldl_append ..)
section
variable {ops : Array Oper} {QE : Exit → Env → World → Prop} {n : Nat} {rest : List Oper} {env : Env} {w wb : World} {d : Option Nat} {ty : Nat} {pos : String} {aft : Array Edge} {g : Option (Nat × Bool)}
theorem lhK {t b off m : Nat} {x : Operand} {cs vs : List Value} {E : TypeId} {fr : Nat × Nat} (hb : w.heap[b]? = some (.cells cs.toArray E fr)) (hc : Pick cs off (m + 1) vs) (hw : wantedE ops env g = true := by exact rfl) (ht : look t tab.tks = some (true, m + 1) := by exact rfl)
    (hp : ev env x = .pointer (some ⟨b, off, none⟩) := by exact rfl)
    (k : XS Tryz.prog ops QE n rest (updO env d (.agg vs.toArray)) w) : XS Tryz.prog ops QE n (⟨d, .load t x, ty, pos, aft, g⟩ :: rest) env w :=
  xs_val hw (by simp [execOp, hp, Instr.loadAt, Instr.sureAddr, Sem.run_bind, run_loadVar_agg (tabOk.tk ht) hb hc.le, hc.eq.2]) k
end
end Go.Proofs.YtegoaabjccignaaGreatDoorX

namespace Go.Proofs.YtegoaabjccignaaGreatDoorX
open Go Go.RowKit
attribute [local irreducible] XS XC XA thenE blockE retE loopE loopS cutB cutN doneE SE
theorem nx64 {i m : Nat} (h : i < m) (hm : m ≤ 9223372036854775807) : IntKind.i64.wrap ((i : Int) + 1) = ((i + 1 : Nat) : Int) := by
  rw [wrap_i64]; omega
def PsAt (w : World) (v : Value) (ps : List Pt) : Prop := LsAt w 32 3 v (ps.map Pt.cells)
def ItsAt (w : World) (v : Value) (l : List It) : Prop := LsAt w 34 7 v (l.map It.cells)
def sinces (base : Int) (ps : List Pt) : List Int := ps.map fun p => sn p.t base
theorem minL_in {l : List Int} (h : ∀ d ∈ l, In64 d) : In64 (minL l) := by
  cases l with
  | nil => decide
  | cons d l =>
    have : ∀ (l : List Int) (a : Int), In64 a → (∀ d ∈ l, In64 d) → In64 (l.foldl (fun a b => if b < a then b else a) a) := by
      intro l
      induction l with
      | nil => intro a ha _; exact ha
      | cons b l ih =>
        intro a ha hl
        refine ih _ ?_ (fun d hd => hl d (List.mem_cons_of_mem _ hd))
        show In64 (if b < a then b else a)
        split
        · exact hl b List.mem_cons_self
        · exact ha
    exact this l d (h d List.mem_cons_self) fun x hx => h x (List.mem_cons_of_mem _ hx)
theorem maxL_in {l : List Int} (h : ∀ d ∈ l, In64 d) : In64 (maxL l) := by
  cases l with
  | nil => decide
  | cons d l =>
    have : ∀ (l : List Int) (a : Int), In64 a → (∀ d ∈ l, In64 d) → In64 (l.foldl (fun a b => if b > a then b else a) a) := by
      intro l
      induction l with
      | nil => intro a ha _; exact ha
      | cons b l ih =>
        intro a ha hl
        refine ih _ ?_ (fun d hd => hl d (List.mem_cons_of_mem _ hd))
        show In64 (if b > a then b else a)
        split
        · exact hl b List.mem_cons_self
        · exact ha
    exact this l d (h d List.mem_cons_self) fun x hx => h x (List.mem_cons_of_mem _ hx)
theorem take_next {α : Type} {l : List α} {i : Nat} (h : i < l.length) : l.take (i + 1) = l.take i ++ [l[i]] := by simp
set_option maxHeartbeats 2000000 in
theorem floors_ret (base : Int) (ps : List Pt) (sl : Value) (hm : ps.length ≤ 9223372036854775807) (w0 : World) (hP : PsAt w0 sl ps) :
    Ret Tryz.prog 116 #[.int .u64 base, sl] w0 fun v w' => v = .tuple #[.int .i64 (minL (sinces base ps)), .int .i64 (maxL (sinces base ps))] ∧ Only [] w0 w' := by
  obtain ⟨ad, cap, rfl, hD⟩ := hP
  rw [List.length_map] at *
  have hs := St.nil w0
  refine ret_of_xc Tryz.func116 (by kernel_rfl) rfl Tryz.ntmps116 rfl rfl rfl ?_
  repeat' (first|refine vs (k:=?_)|refine ps (k:=?_)|((first|refine st hs (k:=?_)|refine stA hs (k:=?_));intro w hs)|((first|refine al hs (k:=?_)|refine bx hs (k:=?_)|refine bs hs (k:=?_));intro b w hz hs)|refine qRg ?_|refine Nx.h ?_|refine qBo ?_|refine qCt ?_|refine qCf ?_|((with_reducible apply xs_guard);exact rfl;exact rfl;intro c hc;(fail_if_success have:true=c:=hc);(fail_if_success have:false=c:=hc);cases c)|(refine xc_if rfl (fun hc=>?_) (fun hc=>?_))|(refine xc_cond rfl (fun hc=>?_) (fun hc=>?_)))
  refine xc_cutB (fun (_ : Unit) => [(4, .int .i64 (minL (sinces base ps))), (5, .int .i64 (maxL (sinces base ps)))]) (fun _ w => St w0 D0 [] w) ?_ ?_
  · refine xc_loopS (fun (i : Nat) => [(0, .int .u64 base), (4, .int .i64 (minL (sinces base (ps.take i)))), (5, .int .i64 (maxL (sinces base (ps.take i)))), (9, .slice ad ps.length cap), (10, .int .i64 (ps.length : Nat)), (11, .int .i64 (i : Nat))])
      (fun i w => i ≤ ps.length ∧ St w0 D0 [] w) (fun i => ps.length - i) 0 (by (repeat (first | exact agree_nil | (apply agree_cons; exact rfl)))) ⟨Nat.zero_le _, hs⟩ fun i env w ⟨hi, hs⟩ => ?_
    repeat' (first|refine vs (k:=?_)|refine ps (k:=?_)|((first|refine st hs (k:=?_)|refine stA hs (k:=?_));intro w hs)|((first|refine al hs (k:=?_)|refine bx hs (k:=?_)|refine bs hs (k:=?_));intro b w hz hs)|refine qRg ?_|refine Nx.h ?_|refine qBo ?_|refine qCt ?_|refine qCf ?_|((with_reducible apply xs_guard);exact rfl;exact rfl;intro c hc;(fail_if_success have:true=c:=hc);(fail_if_success have:false=c:=hc);cases c)|(refine xc_if rfl (fun hc=>?_) (fun hc=>?_))|(refine xc_cond rfl (fun hc=>?_) (fun hc=>?_)))
    · have hlt : i < ps.length := by omega
      obtain ⟨b, off, cs, fz, rfl, _, hb, hcs⟩ := hD (fun h => by simp at h; subst h; cases hlt)
      have hpk := hcs i (Pt.cells ps[i]) (by rw [List.getElem?_map, List.getElem?_eq_getElem hlt]; rfl)
      have hnx : sinces base (ps.take (i + 1)) = sinces base (ps.take i) ++ [sn ps[i].t base] := by rw [take_next hlt]; unfold sinces; rw [List.map_append]; rfl
      have h0 : sinces base (ps.take i) = [] ↔ i = 0 := by
        unfold sinces
        rw [List.map_eq_nil_iff, List.take_eq_nil_iff]
        constructor
        · rintro (h | h)
          · exact h
          · subst h; simp at hlt
        · exact .inl
      have emin := minL_snoc (sinces base (ps.take i)) (sn ps[i].t base)
      have emax := maxL_snoc (sinces base (ps.take i)) (sn ps[i].t base)
      rw [← hnx] at emin emax
      have ei := nx64 hlt hm
      generalize ps[i] = p at *
      refine ix (h0 := (by omega)) (h1 := (by omega)) (k := ?_)
      refine lhK ((hs.only0 rfl).block hb (by simp)) hpk (k := ?_)
      refine al hs (k := ?_); intro b7 w hz hs
      repeat' (first|refine vs (k:=?_)|refine ps (k:=?_)|((first|refine st hs (k:=?_)|refine stA hs (k:=?_));intro w hs)|((first|refine al hs (k:=?_)|refine bx hs (k:=?_)|refine bs hs (k:=?_));intro b w hz hs)|refine qRg ?_|refine Nx.h ?_|refine qBo ?_|refine qCt ?_|refine qCf ?_|((with_reducible apply xs_guard);exact rfl;exact rfl;intro c hc;(fail_if_success have:true=c:=hc);(fail_if_success have:false=c:=hc);cases c)|(refine xc_if rfl (fun hc=>?_) (fun hc=>?_))|(refine xc_cond rfl (fun hc=>?_) (fun hc=>?_)))
      (with_reducible apply xs_call); exact rfl; exact rfl; exact since_ret p.t base _
      rintro v w' ⟨rfl, ho⟩; replace hs := hs.call0 ho; repeat' (first|refine vs (k:=?_)|refine ps (k:=?_)|((first|refine st hs (k:=?_)|refine stA hs (k:=?_));intro w hs)|((first|refine al hs (k:=?_)|refine bx hs (k:=?_)|refine bs hs (k:=?_));intro b w hz hs)|refine qRg ?_|refine Nx.h ?_|refine qBo ?_|refine qCt ?_|refine qCf ?_|((with_reducible apply xs_guard);exact rfl;exact rfl;intro c hc;(fail_if_success have:true=c:=hc);(fail_if_success have:false=c:=hc);cases c)|(refine xc_if rfl (fun hc=>?_) (fun hc=>?_))|(refine xc_cond rfl (fun hc=>?_) (fun hc=>?_)))
      · have hi0 : i = 0 := by omega
        rw [if_pos (h0.2 hi0)] at emin emax
        have e1 : (if sn p.t base < sn p.t base then sn p.t base else sn p.t base) = minL (sinces base (ps.take (i + 1))) := by rw [emin]; split <;> rfl
        have e2 : (if sn p.t base > sn p.t base then sn p.t base else sn p.t base) = maxL (sinces base (ps.take (i + 1))) := by rw [emax]; split <;> rfl
        exact loopS_next (i + 1) (by omega) (by (repeat (first | exact agree_nil | (apply agree_cons; first | exact rfl | exact congrArg (Value.int .i64) e1 | exact congrArg (Value.int .i64) e2 | exact congrArg (Value.int .i64) ei)))) ⟨by omega, hs.forgetNew⟩
      · have hi0 : ¬ i = 0 := by omega
        rw [if_neg (fun h => hi0 (h0.1 h))] at emin emax
        exact loopS_next (i + 1) (by omega) (by (repeat (first | exact agree_nil | (apply agree_cons; first | exact rfl | exact congrArg (Value.int .i64) emin.symm | exact congrArg (Value.int .i64) emax.symm | exact congrArg (Value.int .i64) ei)))) ⟨by omega, hs.forgetNew⟩
    · have e : i = ps.length := by omega
      rw [e, List.take_length]
      exact cutB_exit () (by (repeat (first | exact agree_nil | (apply agree_cons; exact rfl)))) hs
  · rintro _ env w hs
    repeat' (first|refine vs (k:=?_)|refine ps (k:=?_)|((first|refine st hs (k:=?_)|refine stA hs (k:=?_));intro w hs)|((first|refine al hs (k:=?_)|refine bx hs (k:=?_)|refine bs hs (k:=?_));intro b w hz hs)|refine qRg ?_|refine Nx.h ?_|refine qBo ?_|refine qCt ?_|refine qCf ?_|((with_reducible apply xs_guard);exact rfl;exact rfl;intro c hc;(fail_if_success have:true=c:=hc);(fail_if_success have:false=c:=hc);cases c)|(refine xc_if rfl (fun hc=>?_) (fun hc=>?_))|(refine xc_cond rfl (fun hc=>?_) (fun hc=>?_)))
    first | refine rt (hq := ?_) | refine rt' (hq := ?_)
    exact ⟨rfl, hs.only0 rfl⟩
def soonest (a : It) (l : List It) : It := l.foldl (fun a b => bif due b a then b else a) a
theorem soonest_snoc (a : It) (l : List It) (b : It) : soonest a (l ++ [b]) = bif due b (soonest a l) then b else soonest a l := by unfold soonest; rw [List.foldl_append]; rfl
theorem soonest_in {a : It} (ha : a.In) : ∀ {l : List It}, (∀ b ∈ l, b.In) → (soonest a l).In := by
  intro l
  unfold soonest
  induction l generalizing a with
  | nil => intro _; exact ha
  | cons b l ih =>
    intro hl
    refine ih ?_ (fun c hc => hl c (List.mem_cons_of_mem _ hc))
    show (bif due b a then b else a).In
    cases due b a
    · exact ha
    · exact hl b List.mem_cons_self
set_option maxHeartbeats 2000000 in
theorem soonest_ret (x : It) (l : List It) (sl : Value) (hx : x.In) (hl : ∀ b ∈ l, b.In) (hm : l.length ≤ 9223372036854775807) (w0 : World) (hP : ItsAt w0 sl l) :
    Ret Tryz.prog 111 #[iv x, sl] w0 fun v w' => v = iv (soonest x l) ∧ Only [] w0 w' := by
  obtain ⟨ad, cap, rfl, hD⟩ := hP
  rw [List.length_map] at *
  have hs := St.nil w0
  refine ret_of_xc Tryz.func111 (by kernel_rfl) rfl Tryz.ntmps111 rfl rfl rfl ?_
  refine xc_seq ?_
  refine xc_region ?_ ?_; exact rfl
  refine bx hs (k := ?_); intro b2 w hz hs
  refine al hs (k := ?_); intro b4 w hz hs
  repeat' (first|refine vs (k:=?_)|refine ps (k:=?_)|((first|refine st hs (k:=?_)|refine stA hs (k:=?_));intro w hs)|((first|refine al hs (k:=?_)|refine bx hs (k:=?_)|refine bs hs (k:=?_));intro b w hz hs)|refine qRg ?_|refine Nx.h ?_|refine qBo ?_|refine qCt ?_|refine qCf ?_|((with_reducible apply xs_guard);exact rfl;exact rfl;intro c hc;(fail_if_success have:true=c:=hc);(fail_if_success have:false=c:=hc);cases c)|(refine xc_if rfl (fun hc=>?_) (fun hc=>?_))|(refine xc_cond rfl (fun hc=>?_) (fun hc=>?_)))
  refine xc_cutB (fun (_ : Unit) => [(2, .pointer (some ⟨b2, 0, none⟩)), (4, .pointer (some ⟨b4, 0, none⟩))]) (fun _ w => St w0 D0 [(b4, .cells It.zero.cells.toArray 34, true), (b2, .cells (soonest x l).cells.toArray 34, true)] w) ?_ ?_
  · refine xc_loopS (fun (i : Nat) => [(2, .pointer (some ⟨b2, 0, none⟩)), (4, .pointer (some ⟨b4, 0, none⟩)), (7, .slice ad l.length cap), (8, .int .i64 (l.length : Nat)), (9, .int .i64 (i : Nat))])
      (fun i w => i ≤ l.length ∧ St w0 D0 [(b4, .cells It.zero.cells.toArray 34, true), (b2, .cells (soonest x (l.take i)).cells.toArray 34, true)] w) (fun i => l.length - i) 0 (by (repeat (first | exact agree_nil | (apply agree_cons; exact rfl)))) ⟨Nat.zero_le _, hs⟩ fun i env w ⟨hi, hs⟩ => ?_
    repeat' (first|refine vs (k:=?_)|refine ps (k:=?_)|((first|refine st hs (k:=?_)|refine stA hs (k:=?_));intro w hs)|((first|refine al hs (k:=?_)|refine bx hs (k:=?_)|refine bs hs (k:=?_));intro b w hz hs)|refine qRg ?_|refine Nx.h ?_|refine qBo ?_|refine qCt ?_|refine qCf ?_|((with_reducible apply xs_guard);exact rfl;exact rfl;intro c hc;(fail_if_success have:true=c:=hc);(fail_if_success have:false=c:=hc);cases c)|(refine xc_if rfl (fun hc=>?_) (fun hc=>?_))|(refine xc_cond rfl (fun hc=>?_) (fun hc=>?_)))
    · have hlt : i < l.length := by omega
      obtain ⟨b, off, cs, fz, rfl, _, hb, hcs⟩ := hD (fun h => by simp at h; subst h; cases hlt)
      have hpk := hcs i (It.cells l[i]) (by rw [List.getElem?_map, List.getElem?_eq_getElem hlt]; rfl)
      have hsn := soonest_snoc x (l.take i) l[i]
      rw [← take_next hlt] at hsn
      have hin := hl l[i] (List.getElem_mem hlt)
      have hin2 := soonest_in hx (l := l.take i) (fun c hc => hl c (List.mem_of_mem_take hc))
      have ei := nx64 hlt hm
      generalize l[i] = q at *
      generalize soonest x (l.take i) = y at *
      refine ix (h0 := (by omega)) (h1 := (by omega)) (k := ?_)
      refine lhK ((hs.only0 rfl).block hb (by simp)) hpk (k := ?_)
      refine al hs (k := ?_); intro b6 w hz hs
      repeat' (first|refine vs (k:=?_)|refine ps (k:=?_)|((first|refine st hs (k:=?_)|refine stA hs (k:=?_));intro w hs)|((first|refine al hs (k:=?_)|refine bx hs (k:=?_)|refine bs hs (k:=?_));intro b w hz hs)|refine qRg ?_|refine Nx.h ?_|refine qBo ?_|refine qCt ?_|refine qCf ?_|((with_reducible apply xs_guard);exact rfl;exact rfl;intro c hc;(fail_if_success have:true=c:=hc);(fail_if_success have:false=c:=hc);cases c)|(refine xc_if rfl (fun hc=>?_) (fun hc=>?_))|(refine xc_cond rfl (fun hc=>?_) (fun hc=>?_)))
      (with_reducible apply xs_call); exact rfl; exact rfl; exact due_ret q y hin hin2 _
      rintro v w' ⟨rfl, ho⟩; replace hs := hs.call0 ho; repeat' (first|refine vs (k:=?_)|refine ps (k:=?_)|((first|refine st hs (k:=?_)|refine stA hs (k:=?_));intro w hs)|((first|refine al hs (k:=?_)|refine bx hs (k:=?_)|refine bs hs (k:=?_));intro b w hz hs)|refine qRg ?_|refine Nx.h ?_|refine qBo ?_|refine qCt ?_|refine qCf ?_|((with_reducible apply xs_guard);exact rfl;exact rfl;intro c hc;(fail_if_success have:true=c:=hc);(fail_if_success have:false=c:=hc);cases c)|(refine xc_if rfl (fun hc=>?_) (fun hc=>?_))|(refine xc_cond rfl (fun hc=>?_) (fun hc=>?_)))
      · rw [hc, cond_true] at hsn
        exact loopS_next (i + 1) (by omega) (by (repeat (first | exact agree_nil | (apply agree_cons; first | exact rfl | exact congrArg (Value.int .i64) ei)))) ⟨by omega, by rw [hsn]; exact hs.forgetNew⟩
      · rw [hc, cond_false] at hsn
        exact loopS_next (i + 1) (by omega) (by (repeat (first | exact agree_nil | (apply agree_cons; first | exact rfl | exact congrArg (Value.int .i64) ei)))) ⟨by omega, by rw [hsn]; exact hs.forgetNew⟩
    · have e : i = l.length := by omega
      rw [e, List.take_length] at hs
      exact cutB_exit () (by (repeat (first | exact agree_nil | (apply agree_cons; exact rfl)))) hs
  · rintro _ env w hs
    repeat' (first|refine vs (k:=?_)|refine ps (k:=?_)|((first|refine st hs (k:=?_)|refine stA hs (k:=?_));intro w hs)|((first|refine al hs (k:=?_)|refine bx hs (k:=?_)|refine bs hs (k:=?_));intro b w hz hs)|refine qRg ?_|refine Nx.h ?_|refine qBo ?_|refine qCt ?_|refine qCf ?_|((with_reducible apply xs_guard);exact rfl;exact rfl;intro c hc;(fail_if_success have:true=c:=hc);(fail_if_success have:false=c:=hc);cases c)|(refine xc_if rfl (fun hc=>?_) (fun hc=>?_))|(refine xc_cond rfl (fun hc=>?_) (fun hc=>?_)))
    first | refine rt (hq := ?_) | refine rt' (hq := ?_)
    exact ⟨rfl, hs.only0 rfl⟩
end Go.Proofs.YtegoaabjccignaaGreatDoorX
