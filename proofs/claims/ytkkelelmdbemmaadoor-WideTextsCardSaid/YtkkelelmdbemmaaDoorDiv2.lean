/- Layer 1, wide, fifth part: Div. -/
import Derived.Test.YtkkelelmdbemmaaDoorDiv
set_option linter.unusedVariables false
set_option linter.unusedSimpArgs false
set_option maxRecDepth 100000
namespace Go.Proofs.YtkkelelmdbemmaaDoorX
open Go Go.RowKit
attribute [local irreducible] XS XC XA thenE blockE retE loopE loopS cutB cutN doneE SE

theorem long_div (h l y : Int) (hy : 0 < y) (hl0 : 0 ≤ l) (hl1 : l < 18446744073709551616) : (h * 18446744073709551616 + l) / y = h / y * 18446744073709551616 + (h % y * 18446744073709551616 + l) / y ∧
    (h * 18446744073709551616 + l) % y = (h % y * 18446744073709551616 + l) % y ∧ 0 ≤ (h % y * 18446744073709551616 + l) / y ∧ (h % y * 18446744073709551616 + l) / y < 18446744073709551616 := by
  have e1 := Int.mul_ediv_add_emod h y
  have e2 := Int.emod_nonneg h (show y ≠ 0 by omega)
  have e3 := Int.emod_lt_of_pos h hy
  have e : h * 18446744073709551616 + l = (h % y * 18446744073709551616 + l) + h / y * 18446744073709551616 * y := by
    generalize h / y = q at *
    generalize h % y = r at *
    subst e1
    grind
  refine ⟨?_, ?_, Int.ediv_nonneg (by omega) (by omega), ?_⟩
  · rw [e, Int.add_mul_ediv_right _ _ (by omega)]; omega
  · rw [e, Int.add_mul_emod_self_right]
  · rw [Int.ediv_lt_iff_lt_mul hy]
    have : (h % y + 1) * 18446744073709551616 ≤ y * 18446744073709551616 := by omega
    rw [Int.mul_comm 18446744073709551616 y]
    omega
/-- Quotient and rest, downwards. -/
def divV (x y : Int) : Value := if y = 0 then .tuple #[wv 0, .int .u64 0, .bool false] else .tuple #[wv (x / y), .int .u64 (x % y), .bool true]
theorem divV_no {x : Int} : packed [Value.agg #[.int .i64 0, .int .u64 0], .int .u64 0, .bool false] = divV x 0 := rfl
theorem divV_ok {x y r : Int} {v : Value} (hy : y ≠ 0) (hv : v = wv (x / y)) (hr : r = x % y) : packed [v, .int .u64 r, .bool true] = divV x y := by
  unfold divV; rw [if_neg hy, hv, hr]; rfl
theorem neg_div {X y q r : Int} (hy : 0 < y) (hq : X / y = q) (hr : X % y = r) : (0 < r → -X / y = -(q + 1) ∧ -X % y = y - r) ∧ (¬ 0 < r → -X / y = -q ∧ -X % y = 0) := by
  have e1 := Int.mul_ediv_add_emod X y
  have e2 := Int.emod_nonneg X (show y ≠ 0 by omega)
  have e3 := Int.emod_lt_of_pos X hy
  rw [hq, hr] at e1
  rw [hr] at e2 e3
  refine ⟨fun h => ?_, fun h => ?_⟩
  · have e : -X = (y - r) + -(q + 1) * y := by subst e1; grind
    constructor
    · rw [e, Int.add_mul_ediv_right _ _ (by omega), Int.ediv_eq_zero_of_lt (by omega) (by omega)]; omega
    · rw [e, Int.add_mul_emod_self_right, Int.emod_eq_of_lt (by omega) (by omega)]
  · have e : -X = 0 + -q * y := by subst e1; grind
    constructor
    · rw [e, Int.add_mul_ediv_right _ _ (by omega)]; simp
    · rw [e, Int.add_mul_emod_self_right]; simp
set_option maxHeartbeats 400000 in
theorem div_ret (x y : Int) (hx : InW x) (hy0 : 0 ≤ y) (hy1 : y < 18446744073709551616) (w0 : World) : Ret Tryd.prog 15 #[wv x, .int .u64 y] w0 fun v w' => v = divV x y ∧ Only [] w0 w' := by
  have hx' := hx
  obtain ⟨hx1, hx2⟩ := hx
  have hs := St.nil w0
  obtain ⟨X, hX⟩ := abs_ex x
  have hX0 := hX
  obtain ⟨hX1, hX2⟩ := hX
  refine ret_of_xc Tryd.func15 (by kernel_rfl) rfl Tryd.ntmps15 rfl rfl rfl ?_
  repeat' (first | refine vs (k := ?_) | refine ps (k := ?_) | (refine st hs (k := ?_); intro w hs) | (refine stA hs (k := ?_); intro w hs) | (refine al hs (k := ?_); intro b w hz hs) | (refine bx hs (k := ?_); intro b w hz hs) | (refine bs hs (k := ?_); intro b w hz hs) | refine XS.nil ?_ | refine then_of ?_ | refine xc_seq ?_ | (refine xc_region ?_ ?_; exact rfl) | refine xc_block ?_ | refine block_normal ?_ | refine xc_ret ?_ | refine then_ret ?_ | refine block_ret ?_ | refine xc_skip ?_ | refine xc_exit ?_ | refine then_exit ?_ | refine loopS_exit ?_ | refine loopS_ret ?_ | refine cutB_ret ?_ | refine cutN_ret ?_ | refine cutN_exit ?_ | refine block_exit ?_ | (refine block_other ?_ ?_; exact rfl) | (refine xc_true ?_ ?_; exact rfl) | (refine xc_false ?_ ?_; exact rfl) | ((with_reducible apply xs_guard); exact rfl; exact rfl; intro c hc; (fail_if_success (have : true = c := hc)); (fail_if_success (have : false = c := hc)); cases c) | (refine xc_if rfl (fun hc => ?_) (fun hc => ?_)) | (refine xc_cond rfl (fun hc => ?_) (fun hc => ?_)))
  · first | refine rt (hq := ?_) | refine rt' (hq := ?_)
    have : y = 0 := by omega
    subst this
    exact ⟨divV_no, hs.only0 rfl⟩
  (with_reducible apply xs_call); exact rfl; exact rfl; exact size_of hx' hX0 _
  rintro v w' ⟨rfl, ho⟩; replace hs := hs.call0 ho
  repeat' (first | refine vs (k := ?_) | refine ps (k := ?_) | (refine st hs (k := ?_); intro w hs) | (refine stA hs (k := ?_); intro w hs) | (refine al hs (k := ?_); intro b w hz hs) | (refine bx hs (k := ?_); intro b w hz hs) | (refine bs hs (k := ?_); intro b w hz hs) | refine XS.nil ?_ | refine then_of ?_ | refine xc_seq ?_ | (refine xc_region ?_ ?_; exact rfl) | refine xc_block ?_ | refine block_normal ?_ | refine xc_ret ?_ | refine then_ret ?_ | refine block_ret ?_ | refine xc_skip ?_ | refine xc_exit ?_ | refine then_exit ?_ | refine loopS_exit ?_ | refine loopS_ret ?_ | refine cutB_ret ?_ | refine cutN_ret ?_ | refine cutN_exit ?_ | refine block_exit ?_ | (refine block_other ?_ ?_; exact rfl) | (refine xc_true ?_ ?_; exact rfl) | (refine xc_false ?_ ?_; exact rfl) | ((with_reducible apply xs_guard); exact rfl; exact rfl; intro c hc; (fail_if_success (have : true = c := hc)); (fail_if_success (have : false = c := hc)); cases c) | (refine xc_if rfl (fun hc => ?_) (fun hc => ?_)) | (refine xc_cond rfl (fun hc => ?_) (fun hc => ?_)))
  refine dr [] hs (k := ?_); intro hX w hs
  refine tk 0 hX (k := ?_)
  refine tk 1 hX (k := ?_)
  refine tk 2 hX (k := ?_)
  refine tk 3 hX (k := ?_)
  refine tk 4 hX (k := ?_)
  refine tk 5 hX (k := ?_)
  refine tk 6 hX (k := ?_)
  refine tk 7 hX (k := ?_)
  refine en (k := ?_)
  repeat' (first | refine vs (k := ?_) | refine ps (k := ?_) | (refine st hs (k := ?_); intro w hs) | (refine stA hs (k := ?_); intro w hs) | (refine al hs (k := ?_); intro b w hz hs) | (refine bx hs (k := ?_); intro b w hz hs) | (refine bs hs (k := ?_); intro b w hz hs) | refine XS.nil ?_ | refine then_of ?_ | refine xc_seq ?_ | (refine xc_region ?_ ?_; exact rfl) | refine xc_block ?_ | refine block_normal ?_ | refine xc_ret ?_ | refine then_ret ?_ | refine block_ret ?_ | refine xc_skip ?_ | refine xc_exit ?_ | refine then_exit ?_ | refine loopS_exit ?_ | refine loopS_ret ?_ | refine cutB_ret ?_ | refine cutN_ret ?_ | refine cutN_exit ?_ | refine block_exit ?_ | (refine block_other ?_ ?_; exact rfl) | (refine xc_true ?_ ?_; exact rfl) | (refine xc_false ?_ ?_; exact rfl) | ((with_reducible apply xs_guard); exact rfl; exact rfl; intro c hc; (fail_if_success (have : true = c := hc)); (fail_if_success (have : false = c := hc)); cases c) | (refine xc_if rfl (fun hc => ?_) (fun hc => ?_)) | (refine xc_cond rfl (fun hc => ?_) (fun hc => ?_)))
  (with_reducible apply xs_call); exact rfl; exact rfl; exact div64_ret _ _ _ (Int.emod_nonneg _ (by omega)) (Int.emod_lt_of_pos _ (by omega)) (by omega) (by omega) (by omega) _
  rintro v w' ⟨rfl, ho⟩; replace hs := hs.call0 ho
  obtain ⟨d1, d2, d3, d4⟩ := long_div (X / 18446744073709551616) (X % 18446744073709551616) y (by omega) (by omega) (by omega)
  rw [show X / 18446744073709551616 * 18446744073709551616 + X % 18446744073709551616 = X by omega] at d1 d2
  have d5 := Int.emod_nonneg X (show y ≠ 0 by omega)
  have d6 := Int.emod_lt_of_pos X (show 0 < y by omega)
  have d7 : 0 ≤ X / 18446744073709551616 / y := Int.ediv_nonneg (by omega) (by omega)
  have d8 : X / y ≤ X := Int.ediv_le_self y hX1
  have d9 : X / y + X % y ≤ X := by
    have e1 := Int.mul_ediv_add_emod X y
    have e2 : 1 * (X / y) ≤ y * (X / y) := Int.mul_le_mul_of_nonneg_right (by omega) (Int.ediv_nonneg hX1 (by omega))
    omega
  rw [d2] at d5 d6 d9
  generalize X / 18446744073709551616 / y = q1 at *
  generalize (X / 18446744073709551616 % y * 18446744073709551616 + X % 18446744073709551616) / y = q0 at *
  generalize (X / 18446744073709551616 % y * 18446744073709551616 + X % 18446744073709551616) % y = r at *
  repeat' (first | refine vs (k := ?_) | refine ps (k := ?_) | (refine st hs (k := ?_); intro w hs) | (refine stA hs (k := ?_); intro w hs) | (refine al hs (k := ?_); intro b w hz hs) | (refine bx hs (k := ?_); intro b w hz hs) | (refine bs hs (k := ?_); intro b w hz hs) | refine XS.nil ?_ | refine then_of ?_ | refine xc_seq ?_ | (refine xc_region ?_ ?_; exact rfl) | refine xc_block ?_ | refine block_normal ?_ | refine xc_ret ?_ | refine then_ret ?_ | refine block_ret ?_ | refine xc_skip ?_ | refine xc_exit ?_ | refine then_exit ?_ | refine loopS_exit ?_ | refine loopS_ret ?_ | refine cutB_ret ?_ | refine cutN_ret ?_ | refine cutN_exit ?_ | refine block_exit ?_ | (refine block_other ?_ ?_; exact rfl) | (refine xc_true ?_ ?_; exact rfl) | (refine xc_false ?_ ?_; exact rfl) | ((with_reducible apply xs_guard); exact rfl; exact rfl; intro c hc; (fail_if_success (have : true = c := hc)); (fail_if_success (have : false = c := hc)); cases c) | (refine xc_if rfl (fun hc => ?_) (fun hc => ?_)) | (refine xc_cond rfl (fun hc => ?_) (fun hc => ?_)))
  · first | refine rt (hq := ?_) | refine rt' (hq := ?_)
    refine ⟨?_, hs.only0 rfl⟩
    clear hs
    have : x = X := by omega
    subst this
    refine divV_ok (by omega) (agg_ok ?_ ?_) d2.symm
    · simp only [wrap_i64]; omega
    · omega
  · (with_reducible apply xs_call); exact rfl; exact rfl; exact add64_ret _ _ _ (by omega) (by omega) (by omega) (by omega) _
    rintro v w' ⟨rfl, rfl⟩
    repeat' (first | refine vs (k := ?_) | refine ps (k := ?_) | (refine st hs (k := ?_); intro w hs) | (refine stA hs (k := ?_); intro w hs) | (refine al hs (k := ?_); intro b w hz hs) | (refine bx hs (k := ?_); intro b w hz hs) | (refine bs hs (k := ?_); intro b w hz hs) | refine XS.nil ?_ | refine then_of ?_ | refine xc_seq ?_ | (refine xc_region ?_ ?_; exact rfl) | refine xc_block ?_ | refine block_normal ?_ | refine xc_ret ?_ | refine then_ret ?_ | refine block_ret ?_ | refine xc_skip ?_ | refine xc_exit ?_ | refine then_exit ?_ | refine loopS_exit ?_ | refine loopS_ret ?_ | refine cutB_ret ?_ | refine cutN_ret ?_ | refine cutN_exit ?_ | refine block_exit ?_ | (refine block_other ?_ ?_; exact rfl) | (refine xc_true ?_ ?_; exact rfl) | (refine xc_false ?_ ?_; exact rfl) | ((with_reducible apply xs_guard); exact rfl; exact rfl; intro c hc; (fail_if_success (have : true = c := hc)); (fail_if_success (have : false = c := hc)); cases c) | (refine xc_if rfl (fun hc => ?_) (fun hc => ?_)) | (refine xc_cond rfl (fun hc => ?_) (fun hc => ?_)))
    (with_reducible apply xs_call); exact rfl; exact rfl; exact flip_of (agg_sgn (s := X / y + 1) (by omega) (by omega) (by simp only [wrap_u64]; omega) (by omega)) (sgn_in (by omega) (by omega)) _
    rintro v w' ⟨rfl, ho⟩; replace hs := hs.call0 ho
    repeat' (first | refine vs (k := ?_) | refine ps (k := ?_) | (refine st hs (k := ?_); intro w hs) | (refine stA hs (k := ?_); intro w hs) | (refine al hs (k := ?_); intro b w hz hs) | (refine bx hs (k := ?_); intro b w hz hs) | (refine bs hs (k := ?_); intro b w hz hs) | refine XS.nil ?_ | refine then_of ?_ | refine xc_seq ?_ | (refine xc_region ?_ ?_; exact rfl) | refine xc_block ?_ | refine block_normal ?_ | refine xc_ret ?_ | refine then_ret ?_ | refine block_ret ?_ | refine xc_skip ?_ | refine xc_exit ?_ | refine then_exit ?_ | refine loopS_exit ?_ | refine loopS_ret ?_ | refine cutB_ret ?_ | refine cutN_ret ?_ | refine cutN_exit ?_ | refine block_exit ?_ | (refine block_other ?_ ?_; exact rfl) | (refine xc_true ?_ ?_; exact rfl) | (refine xc_false ?_ ?_; exact rfl) | ((with_reducible apply xs_guard); exact rfl; exact rfl; intro c hc; (fail_if_success (have : true = c := hc)); (fail_if_success (have : false = c := hc)); cases c) | (refine xc_if rfl (fun hc => ?_) (fun hc => ?_)) | (refine xc_cond rfl (fun hc => ?_) (fun hc => ?_)))
    first | refine rt (hq := ?_) | refine rt' (hq := ?_)
    refine ⟨?_, hs.only0 rfl⟩
    clear hs
    have : x = -X := by omega
    obtain ⟨n1, n2⟩ := (neg_div (show 0 < y by omega) rfl d2).1 (by omega)
    subst this
    refine divV_ok (by omega) ?_ ?_
    · rw [n1]
      refine congrArg wv ?_
      unfold negW sgn
      repeat' split
      all_goals omega
    · rw [n2, wrap_u64]; omega
  · (with_reducible apply xs_call); exact rfl; exact rfl; exact flip_of (agg_sgn (s := X / y) (by omega) (by omega) (by omega) (by omega)) (sgn_in (by omega) (by omega)) _
    rintro v w' ⟨rfl, ho⟩; replace hs := hs.call0 ho
    repeat' (first | refine vs (k := ?_) | refine ps (k := ?_) | (refine st hs (k := ?_); intro w hs) | (refine stA hs (k := ?_); intro w hs) | (refine al hs (k := ?_); intro b w hz hs) | (refine bx hs (k := ?_); intro b w hz hs) | (refine bs hs (k := ?_); intro b w hz hs) | refine XS.nil ?_ | refine then_of ?_ | refine xc_seq ?_ | (refine xc_region ?_ ?_; exact rfl) | refine xc_block ?_ | refine block_normal ?_ | refine xc_ret ?_ | refine then_ret ?_ | refine block_ret ?_ | refine xc_skip ?_ | refine xc_exit ?_ | refine then_exit ?_ | refine loopS_exit ?_ | refine loopS_ret ?_ | refine cutB_ret ?_ | refine cutN_ret ?_ | refine cutN_exit ?_ | refine block_exit ?_ | (refine block_other ?_ ?_; exact rfl) | (refine xc_true ?_ ?_; exact rfl) | (refine xc_false ?_ ?_; exact rfl) | ((with_reducible apply xs_guard); exact rfl; exact rfl; intro c hc; (fail_if_success (have : true = c := hc)); (fail_if_success (have : false = c := hc)); cases c) | (refine xc_if rfl (fun hc => ?_) (fun hc => ?_)) | (refine xc_cond rfl (fun hc => ?_) (fun hc => ?_)))
    first | refine rt (hq := ?_) | refine rt' (hq := ?_)
    refine ⟨?_, hs.only0 rfl⟩
    clear hs
    have : x = -X := by omega
    obtain ⟨n1, n2⟩ := (neg_div (show 0 < y by omega) rfl d2).2 (by omega)
    subst this
    refine divV_ok (by omega) ?_ ?_
    · rw [n1]
      refine congrArg wv ?_
      unfold negW sgn
      repeat' split
      all_goals omega
    · rw [n2]; omega
end Go.Proofs.YtkkelelmdbemmaaDoorX
