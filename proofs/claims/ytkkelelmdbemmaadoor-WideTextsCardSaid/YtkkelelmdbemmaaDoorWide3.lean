/- Layer 1, wide, third part: products, Cmp, Sign. -/
import Derived.Test.YtkkelelmdbemmaaDoorWide2
set_option linter.unusedVariables false
set_option linter.unusedSimpArgs false
set_option maxRecDepth 100000
namespace Go.Proofs.YtkkelelmdbemmaaDoorX
open Go Go.RowKit
attribute [local irreducible] XS XC XA thenE blockE retE loopE loopS cutB cutN doneE SE

theorem split32 (x : Int) : x = x / 4294967296 * 4294967296 + x % 4294967296 := by omega
theorem mul_bound {a b m : Int} (ha : 0 ≤ a) (ha' : a ≤ m) (hb : 0 ≤ b) (hb' : b ≤ m) : 0 ≤ a * b ∧ a * b ≤ m * m :=
  ⟨Int.mul_nonneg ha hb, Int.mul_le_mul ha' hb' hb (Int.le_trans ha ha')⟩
theorem pairU_ok {a b c d : Int} (h1 : a = c) (h2 : b = d) : packed [Value.int .u64 a, .int .u64 b] = .tuple #[.int .u64 c, .int .u64 d] := by rw [h1, h2]; rfl
set_option maxHeartbeats 400000 in
theorem mul64_ret (x y : Int) (hx0 : 0 ≤ x) (hx1 : x < 18446744073709551616) (hy0 : 0 ≤ y) (hy1 : y < 18446744073709551616) (w0 : World) :
    Ret Tryd.prog 27 #[.int .u64 x, .int .u64 y] w0 fun v w' => v = .tuple #[.int .u64 (x * y / 18446744073709551616), .int .u64 (x * y % 18446744073709551616)] ∧ Only [] w0 w' := by
  have hs := St.nil w0
  refine ret_of_xc Tryd.func27 (by kernel_rfl) rfl Tryd.ntmps27 rfl rfl rfl ?_
  repeat' (first | refine vs (k := ?_) | refine ps (k := ?_) | (refine st hs (k := ?_); intro w hs) | (refine stA hs (k := ?_); intro w hs) | (refine al hs (k := ?_); intro b w hz hs) | (refine bx hs (k := ?_); intro b w hz hs) | (refine bs hs (k := ?_); intro b w hz hs) | refine XS.nil ?_ | refine then_of ?_ | refine xc_seq ?_ | (refine xc_region ?_ ?_; exact rfl) | refine xc_block ?_ | refine block_normal ?_ | refine xc_ret ?_ | refine then_ret ?_ | refine block_ret ?_ | refine xc_skip ?_ | refine xc_exit ?_ | refine then_exit ?_ | refine loopS_exit ?_ | refine loopS_ret ?_ | refine cutB_ret ?_ | refine cutN_ret ?_ | refine cutN_exit ?_ | refine block_exit ?_ | (refine block_other ?_ ?_; exact rfl) | (refine xc_true ?_ ?_; exact rfl) | (refine xc_false ?_ ?_; exact rfl) | ((with_reducible apply xs_guard); exact rfl; exact rfl; intro c hc; (fail_if_success (have : true = c := hc)); (fail_if_success (have : false = c := hc)); cases c) | (refine xc_if rfl (fun hc => ?_) (fun hc => ?_)) | (refine xc_cond rfl (fun hc => ?_) (fun hc => ?_)))
  first | refine rt (hq := ?_) | refine rt' (hq := ?_)
  refine ⟨?_, hs.only0 rfl⟩
  clear hs
  have h1 := split32 x
  have h2 := split32 y
  have a0 := Int.emod_nonneg x (show (4294967296 : Int) ≠ 0 by decide)
  have a0' := Int.emod_lt_of_pos x (show (0 : Int) < 4294967296 by decide)
  have b0 := Int.emod_nonneg y (show (4294967296 : Int) ≠ 0 by decide)
  have b0' := Int.emod_lt_of_pos y (show (0 : Int) < 4294967296 by decide)
  have a1 : 0 ≤ x / 4294967296 ∧ x / 4294967296 ≤ 4294967295 := by omega
  have b1 : 0 ≤ y / 4294967296 ∧ y / 4294967296 ≤ 4294967295 := by omega
  simp only [wrap_u64]
  generalize x / 4294967296 = p at *
  generalize x % 4294967296 = q at *
  generalize y / 4294967296 = r at *
  generalize y % 4294967296 = s at *
  have key : x * y = p * r * 18446744073709551616 + (p * s + q * r) * 4294967296 + q * s := by grind
  have k1 := mul_bound a1.1 a1.2 b1.1 b1.2
  have k2 := mul_bound a1.1 a1.2 b0 (show s ≤ 4294967295 by omega)
  have k3 := mul_bound a0 (show q ≤ 4294967295 by omega) b1.1 b1.2
  have k4 := mul_bound a0 (show q ≤ 4294967295 by omega) b0 (show s ≤ 4294967295 by omega)
  generalize x * y = z at *
  generalize p * r = e1 at *
  generalize p * s = e2 at *
  generalize q * r = e3 at *
  generalize q * s = e4 at *
  clear h1 h2 a0 a0' b0 b0' a1 b1 hx0 hx1 hy0 hy1
  refine pairU_ok ?_ ?_ <;> omega

/-- A number told in two words, read as a signed one. -/
def sgn (s : Int) : Int := if s < 170141183460469231731687303715884105728 then s else s - 340282366920938463463374607431768211456
theorem sgn_in {s : Int} (h0 : 0 ≤ s) (h1 : s < 340282366920938463463374607431768211456) : InW (sgn s) := by unfold sgn InW; split <;> omega
theorem agg_sgn {s hi lo : Int} (h0 : 0 ≤ s) (h1 : s < 340282366920938463463374607431768211456) (h2 : hi = s / 18446744073709551616) (h3 : lo = s % 18446744073709551616) : Value.agg #[.int .i64 (IntKind.i64.wrap hi), .int .u64 lo] = wv (sgn s) := by
  subst h2 h3
  simp only [wrap_i64]
  unfold sgn
  split <;> refine agg_ok ?_ ?_ <;> omega
theorem flip_of {v : Value} {x : Int} (hv : v = wv x) (hx : InW x) (w0 : World) : Ret Tryd.prog 26 #[v] w0 fun v w' => v = wv (negW x) ∧ Only [] w0 w' := by subst hv; exact flip_ret x hx w0
theorem signed_ret (s : Int) (h0 : 0 ≤ s) (h1 : s < 340282366920938463463374607431768211456) (neg : Bool) (w0 : World) :
    Ret Tryd.prog 28 #[.int .u64 (s / 18446744073709551616), .int .u64 (s % 18446744073709551616), .bool neg] w0 fun v w' => v = tellV (bif neg then -s else s) ∧ Only [] w0 w' := by
  have hs := St.nil w0
  cases neg
  · refine ret_of_xc Tryd.func28 (by kernel_rfl) rfl Tryd.ntmps28 rfl rfl rfl ?_
    repeat' (first | refine vs (k := ?_) | refine ps (k := ?_) | (refine st hs (k := ?_); intro w hs) | (refine stA hs (k := ?_); intro w hs) | (refine al hs (k := ?_); intro b w hz hs) | (refine bx hs (k := ?_); intro b w hz hs) | (refine bs hs (k := ?_); intro b w hz hs) | refine XS.nil ?_ | refine then_of ?_ | refine xc_seq ?_ | (refine xc_region ?_ ?_; exact rfl) | refine xc_block ?_ | refine block_normal ?_ | refine xc_ret ?_ | refine then_ret ?_ | refine block_ret ?_ | refine xc_skip ?_ | refine xc_exit ?_ | refine then_exit ?_ | refine loopS_exit ?_ | refine loopS_ret ?_ | refine cutB_ret ?_ | refine cutN_ret ?_ | refine cutN_exit ?_ | refine block_exit ?_ | (refine block_other ?_ ?_; exact rfl) | (refine xc_true ?_ ?_; exact rfl) | (refine xc_false ?_ ?_; exact rfl) | ((with_reducible apply xs_guard); exact rfl; exact rfl; intro c hc; (fail_if_success (have : true = c := hc)); (fail_if_success (have : false = c := hc)); cases c) | (refine xc_if rfl (fun hc => ?_) (fun hc => ?_)) | (refine xc_cond rfl (fun hc => ?_) (fun hc => ?_)))
    all_goals (first | refine rt (hq := ?_) | refine rt' (hq := ?_))
    all_goals refine ⟨?_, hs.only0 rfl⟩
    all_goals clear hs
    all_goals simp only [wrap_i64, cond_false]
    · refine tell_ok ?_ ?_ ?_
      all_goals (try unfold InW)
      all_goals omega
    · refine tell_no ?_
      unfold InW
      omega
  · refine ret_of_xc Tryd.func28 (by kernel_rfl) rfl Tryd.ntmps28 rfl rfl rfl ?_
    repeat' (first | refine vs (k := ?_) | refine ps (k := ?_) | (refine st hs (k := ?_); intro w hs) | (refine stA hs (k := ?_); intro w hs) | (refine al hs (k := ?_); intro b w hz hs) | (refine bx hs (k := ?_); intro b w hz hs) | (refine bs hs (k := ?_); intro b w hz hs) | refine XS.nil ?_ | refine then_of ?_ | refine xc_seq ?_ | (refine xc_region ?_ ?_; exact rfl) | refine xc_block ?_ | refine block_normal ?_ | refine xc_ret ?_ | refine then_ret ?_ | refine block_ret ?_ | refine xc_skip ?_ | refine xc_exit ?_ | refine then_exit ?_ | refine loopS_exit ?_ | refine loopS_ret ?_ | refine cutB_ret ?_ | refine cutN_ret ?_ | refine cutN_exit ?_ | refine block_exit ?_ | (refine block_other ?_ ?_; exact rfl) | (refine xc_true ?_ ?_; exact rfl) | (refine xc_false ?_ ?_; exact rfl) | ((with_reducible apply xs_guard); exact rfl; exact rfl; intro c hc; (fail_if_success (have : true = c := hc)); (fail_if_success (have : false = c := hc)); cases c) | (refine xc_if rfl (fun hc => ?_) (fun hc => ?_)) | (refine xc_cond rfl (fun hc => ?_) (fun hc => ?_)))
    all_goals try ((with_reducible apply xs_call); exact rfl; exact rfl; exact flip_of (agg_sgn h0 h1 rfl rfl) (sgn_in h0 h1) _; rintro v w' ⟨rfl, ho⟩; replace hs := hs.call0 ho; repeat' (first | refine vs (k := ?_) | refine ps (k := ?_) | (refine st hs (k := ?_); intro w hs) | (refine stA hs (k := ?_); intro w hs) | (refine al hs (k := ?_); intro b w hz hs) | (refine bx hs (k := ?_); intro b w hz hs) | (refine bs hs (k := ?_); intro b w hz hs) | refine XS.nil ?_ | refine then_of ?_ | refine xc_seq ?_ | (refine xc_region ?_ ?_; exact rfl) | refine xc_block ?_ | refine block_normal ?_ | refine xc_ret ?_ | refine then_ret ?_ | refine block_ret ?_ | refine xc_skip ?_ | refine xc_exit ?_ | refine then_exit ?_ | refine loopS_exit ?_ | refine loopS_ret ?_ | refine cutB_ret ?_ | refine cutN_ret ?_ | refine cutN_exit ?_ | refine block_exit ?_ | (refine block_other ?_ ?_; exact rfl) | (refine xc_true ?_ ?_; exact rfl) | (refine xc_false ?_ ?_; exact rfl) | ((with_reducible apply xs_guard); exact rfl; exact rfl; intro c hc; (fail_if_success (have : true = c := hc)); (fail_if_success (have : false = c := hc)); cases c) | (refine xc_if rfl (fun hc => ?_) (fun hc => ?_)) | (refine xc_cond rfl (fun hc => ?_) (fun hc => ?_))))
    all_goals (first | refine rt (hq := ?_) | refine rt' (hq := ?_))
    all_goals refine ⟨?_, hs.only0 rfl⟩
    all_goals clear hs
    all_goals simp only [cond_true, negW, sgn]
    all_goals simp at *
    all_goals first
      | (refine tell_no ?_; unfold InW; omega)
      | (refine tell_ok ?_ ?_ ?_ <;> (try unfold InW) <;> (try split) <;> (try split) <;> omega)

theorem sizeV_eq (x : Int) : sizeV x = .tuple #[.int .u64 ((if x < 0 then -x else x) / 18446744073709551616), .int .u64 ((if x < 0 then -x else x) % 18446744073709551616)] := rfl
/-- A number's size, named. -/
def Abs (x X : Int) : Prop := 0 ≤ X ∧ (x < 0 ∧ x = -X ∨ 0 ≤ x ∧ x = X)
theorem abs_ex (x : Int) : ∃ X, Abs x X := by
  rcases Int.lt_or_le x 0 with h | h
  · exact ⟨-x, by omega, .inl (by omega)⟩
  · exact ⟨x, by omega, .inr (by omega)⟩
theorem size_of {x X : Int} (hx : InW x) (h : Abs x X) (w0 : World) : Ret Tryd.prog 21 #[wv x] w0 fun v w' => v = .tuple #[.int .u64 (X / 18446744073709551616), .int .u64 (X % 18446744073709551616)] ∧ Only [] w0 w' := by
  have := size_ret x hx w0
  unfold sizeV at this
  have e : (if x < 0 then -x else x) = X := by obtain ⟨h1, h2⟩ := h; split <;> omega
  rw [e] at this
  exact this
theorem signed_of {hi lo : Int} (s : Int) (h0 : 0 ≤ s) (h1 : s < 340282366920938463463374607431768211456) (h2 : hi = s / 18446744073709551616) (h3 : lo = s % 18446744073709551616) (neg : Bool) (w0 : World) :
    Ret Tryd.prog 28 #[.int .u64 hi, .int .u64 lo, .bool neg] w0 fun v w' => v = tellV (bif neg then -s else s) ∧ Only [] w0 w' := by subst h2 h3; exact signed_ret s h0 h1 neg w0
theorem tellV_shape (s : Int) : ∃ t b, tellV s = .tuple #[wv t, .bool b] ∧ packed [wv t, .bool b] = tellV s := by
  unfold tellV
  split
  · exact ⟨_, _, rfl, rfl⟩
  · exact ⟨_, _, rfl, rfl⟩
set_option maxHeartbeats 400000 in
theorem mul_ret (x n : Int) (hx : InW x) (hn0 : -9223372036854775808 ≤ n) (hn1 : n < 9223372036854775808) (w0 : World) : Ret Tryd.prog 16 #[wv x, .int .i64 n] w0 fun v w' => v = tellV (x * n) ∧ Only [] w0 w' := by
  have hx' := hx
  obtain ⟨hx1, hx2⟩ := hx
  have hs := St.nil w0
  obtain ⟨X, hX⟩ := abs_ex x
  obtain ⟨N, hN⟩ := abs_ex n
  have hX0 := hX
  have hN0 := hN
  obtain ⟨hX1, hX2⟩ := hX
  obtain ⟨hN1, hN2⟩ := hN
  have hNN : N % 18446744073709551616 = N := by omega
  have b1 := mul_bound (a := X / 18446744073709551616) (b := N) (m := 9223372036854775808) (by omega) (by omega) (by omega) (by omega)
  have b2 : 0 ≤ X % 18446744073709551616 * N ∧ X % 18446744073709551616 * N ≤ 18446744073709551615 * 9223372036854775808 := ⟨Int.mul_nonneg (by omega) (by omega), Int.mul_le_mul (by omega) (by omega) (by omega) (by omega)⟩
  refine ret_of_xc Tryd.func16 (by kernel_rfl) rfl Tryd.ntmps16 rfl rfl rfl ?_
  repeat' (first | refine vs (k := ?_) | refine ps (k := ?_) | (refine st hs (k := ?_); intro w hs) | (refine stA hs (k := ?_); intro w hs) | (refine al hs (k := ?_); intro b w hz hs) | (refine bx hs (k := ?_); intro b w hz hs) | (refine bs hs (k := ?_); intro b w hz hs) | refine XS.nil ?_ | refine then_of ?_ | refine xc_seq ?_ | (refine xc_region ?_ ?_; exact rfl) | refine xc_block ?_ | refine block_normal ?_ | refine xc_ret ?_ | refine then_ret ?_ | refine block_ret ?_ | refine xc_skip ?_ | refine xc_exit ?_ | refine then_exit ?_ | refine loopS_exit ?_ | refine loopS_ret ?_ | refine cutB_ret ?_ | refine cutN_ret ?_ | refine cutN_exit ?_ | refine block_exit ?_ | (refine block_other ?_ ?_; exact rfl) | (refine xc_true ?_ ?_; exact rfl) | (refine xc_false ?_ ?_; exact rfl) | ((with_reducible apply xs_guard); exact rfl; exact rfl; intro c hc; (fail_if_success (have : true = c := hc)); (fail_if_success (have : false = c := hc)); cases c) | (refine xc_if rfl (fun hc => ?_) (fun hc => ?_)) | (refine xc_cond rfl (fun hc => ?_) (fun hc => ?_)))
  (with_reducible apply xs_call); exact rfl; exact rfl; exact size_of hx' hX0 _
  rintro v w' ⟨rfl, ho⟩; replace hs := hs.call0 ho
  repeat' (first | refine vs (k := ?_) | refine ps (k := ?_) | (refine st hs (k := ?_); intro w hs) | (refine stA hs (k := ?_); intro w hs) | (refine al hs (k := ?_); intro b w hz hs) | (refine bx hs (k := ?_); intro b w hz hs) | (refine bs hs (k := ?_); intro b w hz hs) | refine XS.nil ?_ | refine then_of ?_ | refine xc_seq ?_ | (refine xc_region ?_ ?_; exact rfl) | refine xc_block ?_ | refine block_normal ?_ | refine xc_ret ?_ | refine then_ret ?_ | refine block_ret ?_ | refine xc_skip ?_ | refine xc_exit ?_ | refine then_exit ?_ | refine loopS_exit ?_ | refine loopS_ret ?_ | refine cutB_ret ?_ | refine cutN_ret ?_ | refine cutN_exit ?_ | refine block_exit ?_ | (refine block_other ?_ ?_; exact rfl) | (refine xc_true ?_ ?_; exact rfl) | (refine xc_false ?_ ?_; exact rfl) | ((with_reducible apply xs_guard); exact rfl; exact rfl; intro c hc; (fail_if_success (have : true = c := hc)); (fail_if_success (have : false = c := hc)); cases c) | (refine xc_if rfl (fun hc => ?_) (fun hc => ?_)) | (refine xc_cond rfl (fun hc => ?_) (fun hc => ?_)))
  (with_reducible apply xs_call); exact rfl; exact rfl; exact of_ret n hn0 hn1 _
  rintro v w' ⟨rfl, ho⟩; replace hs := hs.call0 ho
  repeat' (first | refine vs (k := ?_) | refine ps (k := ?_) | (refine st hs (k := ?_); intro w hs) | (refine stA hs (k := ?_); intro w hs) | (refine al hs (k := ?_); intro b w hz hs) | (refine bx hs (k := ?_); intro b w hz hs) | (refine bs hs (k := ?_); intro b w hz hs) | refine XS.nil ?_ | refine then_of ?_ | refine xc_seq ?_ | (refine xc_region ?_ ?_; exact rfl) | refine xc_block ?_ | refine block_normal ?_ | refine xc_ret ?_ | refine then_ret ?_ | refine block_ret ?_ | refine xc_skip ?_ | refine xc_exit ?_ | refine then_exit ?_ | refine loopS_exit ?_ | refine loopS_ret ?_ | refine cutB_ret ?_ | refine cutN_ret ?_ | refine cutN_exit ?_ | refine block_exit ?_ | (refine block_other ?_ ?_; exact rfl) | (refine xc_true ?_ ?_; exact rfl) | (refine xc_false ?_ ?_; exact rfl) | ((with_reducible apply xs_guard); exact rfl; exact rfl; intro c hc; (fail_if_success (have : true = c := hc)); (fail_if_success (have : false = c := hc)); cases c) | (refine xc_if rfl (fun hc => ?_) (fun hc => ?_)) | (refine xc_cond rfl (fun hc => ?_) (fun hc => ?_)))
  (with_reducible apply xs_call); exact rfl; exact rfl; exact size_of (by unfold InW; omega) hN0 _
  rintro v w' ⟨rfl, ho⟩; replace hs := hs.call0 ho
  rw [hNN]
  repeat' (first | refine vs (k := ?_) | refine ps (k := ?_) | (refine st hs (k := ?_); intro w hs) | (refine stA hs (k := ?_); intro w hs) | (refine al hs (k := ?_); intro b w hz hs) | (refine bx hs (k := ?_); intro b w hz hs) | (refine bs hs (k := ?_); intro b w hz hs) | refine XS.nil ?_ | refine then_of ?_ | refine xc_seq ?_ | (refine xc_region ?_ ?_; exact rfl) | refine xc_block ?_ | refine block_normal ?_ | refine xc_ret ?_ | refine then_ret ?_ | refine block_ret ?_ | refine xc_skip ?_ | refine xc_exit ?_ | refine then_exit ?_ | refine loopS_exit ?_ | refine loopS_ret ?_ | refine cutB_ret ?_ | refine cutN_ret ?_ | refine cutN_exit ?_ | refine block_exit ?_ | (refine block_other ?_ ?_; exact rfl) | (refine xc_true ?_ ?_; exact rfl) | (refine xc_false ?_ ?_; exact rfl) | ((with_reducible apply xs_guard); exact rfl; exact rfl; intro c hc; (fail_if_success (have : true = c := hc)); (fail_if_success (have : false = c := hc)); cases c) | (refine xc_if rfl (fun hc => ?_) (fun hc => ?_)) | (refine xc_cond rfl (fun hc => ?_) (fun hc => ?_)))
  (with_reducible apply xs_call); exact rfl; exact rfl; exact mul64_ret _ _ (by omega) (by omega) (by omega) (by omega) _
  rintro v w' ⟨rfl, ho⟩; replace hs := hs.call0 ho
  repeat' (first | refine vs (k := ?_) | refine ps (k := ?_) | (refine st hs (k := ?_); intro w hs) | (refine stA hs (k := ?_); intro w hs) | (refine al hs (k := ?_); intro b w hz hs) | (refine bx hs (k := ?_); intro b w hz hs) | (refine bs hs (k := ?_); intro b w hz hs) | refine XS.nil ?_ | refine then_of ?_ | refine xc_seq ?_ | (refine xc_region ?_ ?_; exact rfl) | refine xc_block ?_ | refine block_normal ?_ | refine xc_ret ?_ | refine then_ret ?_ | refine block_ret ?_ | refine xc_skip ?_ | refine xc_exit ?_ | refine then_exit ?_ | refine loopS_exit ?_ | refine loopS_ret ?_ | refine cutB_ret ?_ | refine cutN_ret ?_ | refine cutN_exit ?_ | refine block_exit ?_ | (refine block_other ?_ ?_; exact rfl) | (refine xc_true ?_ ?_; exact rfl) | (refine xc_false ?_ ?_; exact rfl) | ((with_reducible apply xs_guard); exact rfl; exact rfl; intro c hc; (fail_if_success (have : true = c := hc)); (fail_if_success (have : false = c := hc)); cases c) | (refine xc_if rfl (fun hc => ?_) (fun hc => ?_)) | (refine xc_cond rfl (fun hc => ?_) (fun hc => ?_)))
  (with_reducible apply xs_call); exact rfl; exact rfl; exact mul64_ret _ _ (by omega) (by omega) (by omega) (by omega) _
  rintro v w' ⟨rfl, ho⟩; replace hs := hs.call0 ho
  repeat' (first | refine vs (k := ?_) | refine ps (k := ?_) | (refine st hs (k := ?_); intro w hs) | (refine stA hs (k := ?_); intro w hs) | (refine al hs (k := ?_); intro b w hz hs) | (refine bx hs (k := ?_); intro b w hz hs) | (refine bs hs (k := ?_); intro b w hz hs) | refine XS.nil ?_ | refine then_of ?_ | refine xc_seq ?_ | (refine xc_region ?_ ?_; exact rfl) | refine xc_block ?_ | refine block_normal ?_ | refine xc_ret ?_ | refine then_ret ?_ | refine block_ret ?_ | refine xc_skip ?_ | refine xc_exit ?_ | refine then_exit ?_ | refine loopS_exit ?_ | refine loopS_ret ?_ | refine cutB_ret ?_ | refine cutN_ret ?_ | refine cutN_exit ?_ | refine block_exit ?_ | (refine block_other ?_ ?_; exact rfl) | (refine xc_true ?_ ?_; exact rfl) | (refine xc_false ?_ ?_; exact rfl) | ((with_reducible apply xs_guard); exact rfl; exact rfl; intro c hc; (fail_if_success (have : true = c := hc)); (fail_if_success (have : false = c := hc)); cases c) | (refine xc_if rfl (fun hc => ?_) (fun hc => ?_)) | (refine xc_cond rfl (fun hc => ?_) (fun hc => ?_)))
  (with_reducible apply xs_call); exact rfl; exact rfl; exact add64_ret _ _ _ (by omega) (by omega) (by omega) (by omega) _
  rintro v w' ⟨rfl, rfl⟩
  have key : X * N = X / 18446744073709551616 * N * 18446744073709551616 + X % 18446744073709551616 * N := by
    have : X = X / 18446744073709551616 * 18446744073709551616 + X % 18446744073709551616 := by omega
    generalize X / 18446744073709551616 = p at *
    generalize X % 18446744073709551616 = q at *
    grind
  have hneg : x * n = (bif (decide (x / 18446744073709551616 < 0) != decide (n < 0)) then -(X * N) else X * N) := by
    rcases hX2 with ⟨h1, h2⟩ | ⟨h1, h2⟩ <;> rcases hN2 with ⟨h3, h4⟩ | ⟨h3, h4⟩
    · rw [decide_eq_true (show x / 18446744073709551616 < 0 by omega), decide_eq_true h3, h2, h4]; simp [Int.neg_mul, Int.mul_neg]
    · rw [decide_eq_true (show x / 18446744073709551616 < 0 by omega), decide_eq_false (show ¬ n < 0 by omega), h2, h4]; simp [Int.neg_mul, Int.mul_neg]
    · rw [decide_eq_false (show ¬ x / 18446744073709551616 < 0 by omega), decide_eq_true h3, h2, h4]; simp [Int.neg_mul, Int.mul_neg]
    · rw [decide_eq_false (show ¬ x / 18446744073709551616 < 0 by omega), decide_eq_false (show ¬ n < 0 by omega), h2, h4]; simp [Int.neg_mul, Int.mul_neg]
  generalize X / 18446744073709551616 * N = p1 at *
  generalize X % 18446744073709551616 * N = p2 at *
  repeat' (first | refine vs (k := ?_) | refine ps (k := ?_) | (refine st hs (k := ?_); intro w hs) | (refine stA hs (k := ?_); intro w hs) | (refine al hs (k := ?_); intro b w hz hs) | (refine bx hs (k := ?_); intro b w hz hs) | (refine bs hs (k := ?_); intro b w hz hs) | refine XS.nil ?_ | refine then_of ?_ | refine xc_seq ?_ | (refine xc_region ?_ ?_; exact rfl) | refine xc_block ?_ | refine block_normal ?_ | refine xc_ret ?_ | refine then_ret ?_ | refine block_ret ?_ | refine xc_skip ?_ | refine xc_exit ?_ | refine then_exit ?_ | refine loopS_exit ?_ | refine loopS_ret ?_ | refine cutB_ret ?_ | refine cutN_ret ?_ | refine cutN_exit ?_ | refine block_exit ?_ | (refine block_other ?_ ?_; exact rfl) | (refine xc_true ?_ ?_; exact rfl) | (refine xc_false ?_ ?_; exact rfl) | ((with_reducible apply xs_guard); exact rfl; exact rfl; intro c hc; (fail_if_success (have : true = c := hc)); (fail_if_success (have : false = c := hc)); cases c) | (refine xc_if rfl (fun hc => ?_) (fun hc => ?_)) | (refine xc_cond rfl (fun hc => ?_) (fun hc => ?_)))
  all_goals simp only [bne_iff_ne, ne_eq, bne_eq_false_iff_eq] at *
  · first | refine rt (hq := ?_) | refine rt' (hq := ?_)
    refine ⟨?_, hs.only0 rfl⟩
    clear hs
    refine tell_no ?_
    rw [hneg]
    unfold InW
    cases (decide (x / 18446744073709551616 < 0) != decide (n < 0)) <;> simp only [cond_true, cond_false] <;> omega
  · (with_reducible apply xs_call); exact rfl; exact rfl; exact signed_of (X * N) (by omega) (by omega) (by omega) (by omega) _ _
    rintro v w' ⟨rfl, ho⟩; replace hs := hs.call0 ho
    obtain ⟨t, b', e1, e2⟩ := tellV_shape (bif decide (x / 18446744073709551616 < 0) != decide (n < 0) then -(X * N) else X * N)
    rw [e1]
    repeat' (first | refine vs (k := ?_) | refine ps (k := ?_) | (refine st hs (k := ?_); intro w hs) | (refine stA hs (k := ?_); intro w hs) | (refine al hs (k := ?_); intro b w hz hs) | (refine bx hs (k := ?_); intro b w hz hs) | (refine bs hs (k := ?_); intro b w hz hs) | refine XS.nil ?_ | refine then_of ?_ | refine xc_seq ?_ | (refine xc_region ?_ ?_; exact rfl) | refine xc_block ?_ | refine block_normal ?_ | refine xc_ret ?_ | refine then_ret ?_ | refine block_ret ?_ | refine xc_skip ?_ | refine xc_exit ?_ | refine then_exit ?_ | refine loopS_exit ?_ | refine loopS_ret ?_ | refine cutB_ret ?_ | refine cutN_ret ?_ | refine cutN_exit ?_ | refine block_exit ?_ | (refine block_other ?_ ?_; exact rfl) | (refine xc_true ?_ ?_; exact rfl) | (refine xc_false ?_ ?_; exact rfl) | ((with_reducible apply xs_guard); exact rfl; exact rfl; intro c hc; (fail_if_success (have : true = c := hc)); (fail_if_success (have : false = c := hc)); cases c) | (refine xc_if rfl (fun hc => ?_) (fun hc => ?_)) | (refine xc_cond rfl (fun hc => ?_) (fun hc => ?_)))
    first | refine rt (hq := ?_) | refine rt' (hq := ?_)
    exact ⟨e2.trans (by rw [hneg]), hs.only0 rfl⟩
  · first | refine rt (hq := ?_) | refine rt' (hq := ?_)
    refine ⟨?_, hs.only0 rfl⟩
    clear hs
    refine tell_no ?_
    rw [hneg]
    unfold InW
    cases (decide (x / 18446744073709551616 < 0) != decide (n < 0)) <;> simp only [cond_true, cond_false] <;> omega
end Go.Proofs.YtkkelelmdbemmaaDoorX
