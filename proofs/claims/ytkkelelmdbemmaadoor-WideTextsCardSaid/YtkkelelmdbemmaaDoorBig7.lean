/- Layer 1, ref01, seventh part: U, N. -/
import Derived.Test.YtkkelelmdbemmaaDoorBig6
set_option linter.unusedVariables false
set_option linter.unusedSimpArgs false
set_option maxRecDepth 100000
namespace Go.Proofs.YtkkelelmdbemmaaDoorX
open Go Go.RowKit
attribute [local irreducible] XS XC XA thenE blockE retE loopE loopS cutB cutN doneE SE

structure Dgs (X : Int) (xs : List Int) (n : Nat) (y : Int) : Prop where
  len : xs.length = n
  ok : DOk xs
  y0 : 0 ≤ y
  y1 : y < 18446744073709551616
  sum : valD xs + 10000 ^ n * y = X
  trim : y = 0 → Trim xs
theorem dgs_lt {X : Int} {xs : List Int} {n : Nat} {y : Int} (h : Dgs X xs n y) (hX : X < 18446744073709551616) (hy : 0 < y) : n < 5 := by
  rcases Nat.lt_or_ge n 5 with h5 | h5
  · exact h5
  · have h1 := pow_mono' h5
    have h2 := valD_nonneg h.ok
    have h3 : (10000 : Int) ^ n * 1 ≤ 10000 ^ n * y := Int.mul_le_mul_of_nonneg_left (by omega) (Int.le_of_lt (pow_pos' n))
    have h4 := h.sum
    omega
theorem dgs_next {X : Int} {xs : List Int} {n : Nat} {y : Int} (h : Dgs X xs n y) (hy : 0 < y) : Dgs X (xs ++ [y % 10000]) (n + 1) (y / 10000) := by
  obtain ⟨h1, h2, h3, h4, h5, h6⟩ := h
  refine ⟨by simp [h1], h2.snoc (by omega) (by omega), by omega, by omega, ?_, fun h0 d hd => ?_⟩
  · rw [valD_snoc, h1, Int.pow_succ]
    have e := Int.mul_ediv_add_emod y 10000
    generalize y / 10000 = q at *
    generalize y % 10000 = r at *
    have : (10000 : Int) ^ n * r + 10000 ^ n * 10000 * q = 10000 ^ n * y := by rw [← e]; grind
    omega
  · simp at hd; subst hd; omega
set_option maxHeartbeats 1000000 in
theorem bigU_ret (X : Int) (w0 : World) (hX0 : 0 ≤ X) (hX1 : X < 18446744073709551616) : Ret Tryd.prog 14 #[.int .u64 X] w0 fun v w' => BigAt w' v X ∧ Only [] w0 w' := by
  have hs := St.nil w0
  refine ret_of_xc Tryd.func14 (by kernel_rfl) rfl Tryd.ntmps14 rfl rfl rfl ?_
  refine xc_seq ?_
  refine xc_region ?_ ?_; exact rfl
  refine al hs (k := ?_); intro b2 w hz hs
  repeat' (first | refine vs (k := ?_) | refine ps (k := ?_) | (refine st hs (k := ?_); intro w hs) | (refine stA hs (k := ?_); intro w hs) | (refine al hs (k := ?_); intro b w hz hs) | (refine bx hs (k := ?_); intro b w hz hs) | (refine bs hs (k := ?_); intro b w hz hs) | refine XS.nil ?_ | refine then_of ?_ | refine xc_seq ?_ | refine xc_block ?_ | refine block_normal ?_ | refine xc_ret ?_ | refine then_ret ?_ | refine block_ret ?_ | refine xc_skip ?_ | refine xc_exit ?_ | refine then_exit ?_ | refine loopS_exit ?_ | refine loopS_ret ?_ | refine cutB_ret ?_ | refine cutN_ret ?_ | refine cutN_exit ?_ | refine block_exit ?_ | (refine block_other ?_ ?_; exact rfl) | (refine xc_true ?_ ?_; exact rfl) | (refine xc_false ?_ ?_; exact rfl) | ((with_reducible apply xs_guard); exact rfl; exact rfl; intro c hc; (fail_if_success (have : true = c := hc)); (fail_if_success (have : false = c := hc)); cases c) | (refine xc_if rfl (fun hc => ?_) (fun hc => ?_)) | (refine xc_cond rfl (fun hc => ?_) (fun hc => ?_)))
  refine xc_region ?_ ?_; exact rfl
  refine al hs (k := ?_); intro b3 w hz hs
  repeat' (first | refine vs (k := ?_) | refine ps (k := ?_) | (refine st hs (k := ?_); intro w hs) | (refine stA hs (k := ?_); intro w hs) | (refine al hs (k := ?_); intro b w hz hs) | (refine bx hs (k := ?_); intro b w hz hs) | (refine bs hs (k := ?_); intro b w hz hs) | refine XS.nil ?_ | refine then_of ?_ | refine xc_seq ?_ | (refine xc_region ?_ ?_; exact rfl) | refine xc_block ?_ | refine block_normal ?_ | refine xc_ret ?_ | refine then_ret ?_ | refine block_ret ?_ | refine xc_skip ?_ | refine xc_exit ?_ | refine then_exit ?_ | refine loopS_exit ?_ | refine loopS_ret ?_ | refine cutB_ret ?_ | refine cutN_ret ?_ | refine cutN_exit ?_ | refine block_exit ?_ | (refine block_other ?_ ?_; exact rfl) | (refine xc_true ?_ ?_; exact rfl) | (refine xc_false ?_ ?_; exact rfl) | ((with_reducible apply xs_guard); exact rfl; exact rfl; intro c hc; (fail_if_success (have : true = c := hc)); (fail_if_success (have : false = c := hc)); cases c) | (refine xc_if rfl (fun hc => ?_) (fun hc => ?_)) | (refine xc_cond rfl (fun hc => ?_) (fun hc => ?_)))
  refine xc_cutB (fun (_ : Unit) => [(2, .pointer (some ⟨b2, 0, none⟩)), (3, .pointer (some ⟨b3, 0, none⟩))]) (fun _ w => ∃ v xs n, Dgs X xs n 0 ∧ OwnS w0 D0 [(b3, .cells #[.bool false, v] 31, true), (b2, .cells #[.bool false, .slice none 0 0] 31, true)] 3 1 v n (ints xs) w) ?_ ?_
  · refine xc_loopS (fun (s : Int × Value × List Int × Nat) => [(2, .pointer (some ⟨b2, 0, none⟩)), (3, .pointer (some ⟨b3, 0, none⟩)), (0, .int .u64 s.1)])
      (fun s w => Dgs X s.2.2.1 s.2.2.2 s.1 ∧ OwnS w0 D0 [(b3, .cells #[.bool false, s.2.1] 31, true), (b2, .cells #[.bool false, .slice none 0 0] 31, true)] 3 1 s.2.1 s.2.2.2 (ints s.2.2.1) w)
      (fun s => s.1.toNat) (X, .slice none 0 0, [], 0) (by (repeat (first | exact agree_nil | (apply agree_cons; exact rfl)))) ⟨⟨rfl, DOk.nil, hX0, hX1, by simp [valD], fun _ d h => by cases h⟩, .inl ⟨rfl, rfl, rfl, hs⟩⟩ fun s env w hI => ?_
    obtain ⟨hp, hO⟩ := hI
    clear hs
    generalize hy : s.1 = y at *
    generalize hvv : s.2.1 = v at *
    generalize hxs : s.2.2.1 = xs at *
    generalize hnn : s.2.2.2 = n at *
    have hy0 := hp.y0
    have hy1 := hp.y1
    repeat' (first | refine vs (k := ?_) | refine ps (k := ?_) | (refine st hs (k := ?_); intro w hs) | (refine stA hs (k := ?_); intro w hs) | (refine al hs (k := ?_); intro b w hz hs) | (refine bx hs (k := ?_); intro b w hz hs) | (refine bs hs (k := ?_); intro b w hz hs) | refine XS.nil ?_ | refine then_of ?_ | refine xc_seq ?_ | (refine xc_region ?_ ?_; exact rfl) | refine xc_block ?_ | refine block_normal ?_ | refine xc_ret ?_ | refine then_ret ?_ | refine block_ret ?_ | refine xc_skip ?_ | refine xc_exit ?_ | refine then_exit ?_ | refine loopS_exit ?_ | refine loopS_ret ?_ | refine cutB_ret ?_ | refine cutN_ret ?_ | refine cutN_exit ?_ | refine block_exit ?_ | (refine block_other ?_ ?_; exact rfl) | (refine xc_true ?_ ?_; exact rfl) | (refine xc_false ?_ ?_; exact rfl) | ((with_reducible apply xs_guard); exact rfl; exact rfl; intro c hc; (fail_if_success (have : true = c := hc)); (fail_if_success (have : false = c := hc)); cases c) | (refine xc_if rfl (fun hc => ?_) (fun hc => ?_)) | (refine xc_cond rfl (fun hc => ?_) (fun hc => ?_)))
    · have hlt := dgs_lt hp hX1 hc
      have e10 : IntKind.i64.wrap (y % 10000) = y % 10000 := i64_small (by omega) (by omega)
      rcases hO with ⟨rfl, hn, hx, hs⟩ | ⟨g, cap, cur, rfl, hcap, hcl, hxl, htk, hs⟩
      all_goals (
        repeat' (first | refine vs (k := ?_) | refine ps (k := ?_) | (refine st hs (k := ?_); intro w hs) | (refine stA hs (k := ?_); intro w hs) | (refine al hs (k := ?_); intro b w hz hs) | (refine bx hs (k := ?_); intro b w hz hs) | (refine bs hs (k := ?_); intro b w hz hs) | refine XS.nil ?_ | refine then_of ?_ | refine xc_seq ?_ | (refine xc_region ?_ ?_; exact rfl) | refine xc_block ?_ | refine block_normal ?_ | refine xc_ret ?_ | refine then_ret ?_ | refine block_ret ?_ | refine xc_skip ?_ | refine xc_exit ?_ | refine then_exit ?_ | refine loopS_exit ?_ | refine loopS_ret ?_ | refine cutB_ret ?_ | refine cutN_ret ?_ | refine cutN_exit ?_ | refine block_exit ?_ | (refine block_other ?_ ?_; exact rfl) | (refine xc_true ?_ ?_; exact rfl) | (refine xc_false ?_ ?_; exact rfl) | ((with_reducible apply xs_guard); exact rfl; exact rfl; intro c hc; (fail_if_success (have : true = c := hc)); (fail_if_success (have : false = c := hc)); cases c) | (refine xc_if rfl (fun hc => ?_) (fun hc => ?_)) | (refine xc_cond rfl (fun hc => ?_) (fun hc => ?_)))
        rw [e10] at hs ⊢
        refine apd (k := n) (xs := ints xs) (news := [.int .i64 (y % 10000)]) (by first | exact .inl ⟨rfl, hn, hx, hs⟩ | exact .inr ⟨_, _, _, rfl, hcap, hcl, hxl, htk, hs.swap⟩) (hk := by omega) (hk' := by simp only [maxLen]; omega) (kk := ?_)
        intro v' w hO' hv'
        rw [ints_snoc] at hO'
        clear hs
        rcases hO' with ⟨h, _⟩ | ⟨g', cap', cur', rfl, hcap', hcl', hxl', htk', hs⟩
        · exact absurd h hv'
        repeat' (first | refine vs (k := ?_) | refine ps (k := ?_) | (refine st hs (k := ?_); intro w hs) | (refine stA hs (k := ?_); intro w hs) | (refine al hs (k := ?_); intro b w hz hs) | (refine bx hs (k := ?_); intro b w hz hs) | (refine bs hs (k := ?_); intro b w hz hs) | refine XS.nil ?_ | refine then_of ?_ | refine xc_seq ?_ | (refine xc_region ?_ ?_; exact rfl) | refine xc_block ?_ | refine block_normal ?_ | refine xc_ret ?_ | refine then_ret ?_ | refine block_ret ?_ | refine xc_skip ?_ | refine xc_exit ?_ | refine then_exit ?_ | refine loopS_exit ?_ | refine loopS_ret ?_ | refine cutB_ret ?_ | refine cutN_ret ?_ | refine cutN_exit ?_ | refine block_exit ?_ | (refine block_other ?_ ?_; exact rfl) | (refine xc_true ?_ ?_; exact rfl) | (refine xc_false ?_ ?_; exact rfl) | ((with_reducible apply xs_guard); exact rfl; exact rfl; intro c hc; (fail_if_success (have : true = c := hc)); (fail_if_success (have : false = c := hc)); cases c) | (refine xc_if rfl (fun hc => ?_) (fun hc => ?_)) | (refine xc_cond rfl (fun hc => ?_) (fun hc => ?_)))
        exact loopS_next (y / 10000, _, xs ++ [y % 10000], n + 1) (by simp only [hy]; omega) (by (repeat (first | exact agree_nil | (apply agree_cons; exact rfl)))) ⟨dgs_next hp hc, .inr ⟨_, _, _, rfl, hcap', hcl', hxl', htk', hs⟩⟩)
    · have hy00 : y = 0 := by omega
      subst hy00
      exact cutB_exit () (by (repeat (first | exact agree_nil | (apply agree_cons; exact rfl)))) ⟨v, xs, n, hp, hO⟩
  · rintro _ env w ⟨v, xs, n, hp, hO⟩
    clear hs
    rcases hO with ⟨rfl, hn, hx, hs⟩ | ⟨g, cap, cur, rfl, hcap, hcl, hxl, htk, hs⟩
    all_goals (
      repeat' (first | refine vs (k := ?_) | refine ps (k := ?_) | (refine st hs (k := ?_); intro w hs) | (refine stA hs (k := ?_); intro w hs) | (refine al hs (k := ?_); intro b w hz hs) | (refine bx hs (k := ?_); intro b w hz hs) | (refine bs hs (k := ?_); intro b w hz hs) | refine XS.nil ?_ | refine then_of ?_ | refine xc_seq ?_ | (refine xc_region ?_ ?_; exact rfl) | refine xc_block ?_ | refine block_normal ?_ | refine xc_ret ?_ | refine then_ret ?_ | refine block_ret ?_ | refine xc_skip ?_ | refine xc_exit ?_ | refine then_exit ?_ | refine loopS_exit ?_ | refine loopS_ret ?_ | refine cutB_ret ?_ | refine cutN_ret ?_ | refine cutN_exit ?_ | refine block_exit ?_ | (refine block_other ?_ ?_; exact rfl) | (refine xc_true ?_ ?_; exact rfl) | (refine xc_false ?_ ?_; exact rfl) | ((with_reducible apply xs_guard); exact rfl; exact rfl; intro c hc; (fail_if_success (have : true = c := hc)); (fail_if_success (have : false = c := hc)); cases c) | (refine xc_if rfl (fun hc => ?_) (fun hc => ?_)) | (refine xc_cond rfl (fun hc => ?_) (fun hc => ?_)))
      first | refine rt (hq := ?_) | refine rt' (hq := ?_)
      have hv : valD xs = X := by have := hp.sum; simpa using this
      have hd := own_dat (by first | exact .inl ⟨rfl, hn, hx, hs⟩ | exact .inr ⟨_, _, _, rfl, hcap, hcl, hxl, htk, hs⟩) hp.len.symm
      exact ⟨⟨false, _, xs, rfl, hd, hp.ok, hp.trim rfl, fun _ => rfl, by simp [sg, hv]⟩, hs.only0 rfl⟩)
end Go.Proofs.YtkkelelmdbemmaaDoorX
