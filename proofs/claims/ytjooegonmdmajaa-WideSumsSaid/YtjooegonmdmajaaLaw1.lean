/- Layer 1, the laws of wide: the walks. -/
import Derived.Test.YtjooegonmdmajaaDiv2
set_option linter.unusedVariables false
set_option linter.unusedSimpArgs false
set_option maxRecDepth 100000
namespace Go.Proofs.YtjooegonmdmajaaX
open Go Go.RowKit
attribute [local irreducible] XS XC XA thenE blockE retE loopE loopS cutB cutN doneE SE

theorem divV_7 : divV (-7) 2 = .tuple #[wv (-4), .int .u64 1, .bool true] := by kernel_rfl
theorem tell_64 : tellV (9223372036854775808 * 2) = .tuple #[wv 18446744073709551616, .bool true] := by kernel_rfl
set_option maxHeartbeats 400000 in
theorem awake1_ret (w0 : World) : Ret Try.prog 24 #[] w0 fun v w' => v = .bool true ∧ Only [] w0 w' := by
  have hs := St.nil w0
  refine ret_of_xc Try.func24 (by kernel_rfl) rfl Try.ntmps24 rfl rfl rfl ?_
  repeat' (first | refine vs (k := ?_) | refine ps (k := ?_) | (refine st hs (k := ?_); intro w hs) | (refine stA hs (k := ?_); intro w hs) | (refine al hs (k := ?_); intro b w hz hs) | (refine bx hs (k := ?_); intro b w hz hs) | (refine bs hs (k := ?_); intro b w hz hs) | refine XS.nil ?_ | refine then_of ?_ | refine xc_seq ?_ | (refine xc_region ?_ ?_; exact rfl) | refine xc_block ?_ | refine block_normal ?_ | refine xc_ret ?_ | refine then_ret ?_ | refine block_ret ?_ | refine xc_skip ?_ | refine xc_exit ?_ | refine then_exit ?_ | refine loopS_exit ?_ | refine loopS_ret ?_ | refine cutB_ret ?_ | refine cutN_ret ?_ | refine cutN_exit ?_ | refine block_exit ?_ | (refine block_other ?_ ?_; exact rfl) | (refine xc_true ?_ ?_; exact rfl) | (refine xc_false ?_ ?_; exact rfl) | ((with_reducible apply xs_guard); exact rfl; exact rfl; intro c hc; cases c) | (refine xc_if rfl (fun hc => ?_) (fun hc => ?_)) | (refine xc_cond rfl (fun hc => ?_) (fun hc => ?_)))
  (with_reducible apply xs_call); exact rfl; exact rfl; exact of_ret (-7) (by decide) (by decide) _
  rintro v w' ⟨rfl, ho⟩; replace hs := hs.call0 ho
  repeat' (first | refine vs (k := ?_) | refine ps (k := ?_) | (refine st hs (k := ?_); intro w hs) | (refine stA hs (k := ?_); intro w hs) | (refine al hs (k := ?_); intro b w hz hs) | (refine bx hs (k := ?_); intro b w hz hs) | (refine bs hs (k := ?_); intro b w hz hs) | refine XS.nil ?_ | refine then_of ?_ | refine xc_seq ?_ | (refine xc_region ?_ ?_; exact rfl) | refine xc_block ?_ | refine block_normal ?_ | refine xc_ret ?_ | refine then_ret ?_ | refine block_ret ?_ | refine xc_skip ?_ | refine xc_exit ?_ | refine then_exit ?_ | refine loopS_exit ?_ | refine loopS_ret ?_ | refine cutB_ret ?_ | refine cutN_ret ?_ | refine cutN_exit ?_ | refine block_exit ?_ | (refine block_other ?_ ?_; exact rfl) | (refine xc_true ?_ ?_; exact rfl) | (refine xc_false ?_ ?_; exact rfl) | ((with_reducible apply xs_guard); exact rfl; exact rfl; intro c hc; cases c) | (refine xc_if rfl (fun hc => ?_) (fun hc => ?_)) | (refine xc_cond rfl (fun hc => ?_) (fun hc => ?_)))
  (with_reducible apply xs_call); exact rfl; exact rfl; exact div_ret (-7) 2 (by decide) (by decide) (by decide) _
  rintro v w' ⟨rfl, ho⟩; replace hs := hs.call0 ho
  rw [divV_7]
  repeat' (first | refine vs (k := ?_) | refine ps (k := ?_) | (refine st hs (k := ?_); intro w hs) | (refine stA hs (k := ?_); intro w hs) | (refine al hs (k := ?_); intro b w hz hs) | (refine bx hs (k := ?_); intro b w hz hs) | (refine bs hs (k := ?_); intro b w hz hs) | refine XS.nil ?_ | refine then_of ?_ | refine xc_seq ?_ | (refine xc_region ?_ ?_; exact rfl) | refine xc_block ?_ | refine block_normal ?_ | refine xc_ret ?_ | refine then_ret ?_ | refine block_ret ?_ | refine xc_skip ?_ | refine xc_exit ?_ | refine then_exit ?_ | refine loopS_exit ?_ | refine loopS_ret ?_ | refine cutB_ret ?_ | refine cutN_ret ?_ | refine cutN_exit ?_ | refine block_exit ?_ | (refine block_other ?_ ?_; exact rfl) | (refine xc_true ?_ ?_; exact rfl) | (refine xc_false ?_ ?_; exact rfl) | ((with_reducible apply xs_guard); exact rfl; exact rfl; intro c hc; cases c) | (refine xc_if rfl (fun hc => ?_) (fun hc => ?_)) | (refine xc_cond rfl (fun hc => ?_) (fun hc => ?_)))
  (with_reducible apply xs_call); exact rfl; exact rfl; exact ofU_ret 9223372036854775808 (by decide) (by decide) _
  rintro v w' ⟨rfl, ho⟩; replace hs := hs.call0 ho
  repeat' (first | refine vs (k := ?_) | refine ps (k := ?_) | (refine st hs (k := ?_); intro w hs) | (refine stA hs (k := ?_); intro w hs) | (refine al hs (k := ?_); intro b w hz hs) | (refine bx hs (k := ?_); intro b w hz hs) | (refine bs hs (k := ?_); intro b w hz hs) | refine XS.nil ?_ | refine then_of ?_ | refine xc_seq ?_ | (refine xc_region ?_ ?_; exact rfl) | refine xc_block ?_ | refine block_normal ?_ | refine xc_ret ?_ | refine then_ret ?_ | refine block_ret ?_ | refine xc_skip ?_ | refine xc_exit ?_ | refine then_exit ?_ | refine loopS_exit ?_ | refine loopS_ret ?_ | refine cutB_ret ?_ | refine cutN_ret ?_ | refine cutN_exit ?_ | refine block_exit ?_ | (refine block_other ?_ ?_; exact rfl) | (refine xc_true ?_ ?_; exact rfl) | (refine xc_false ?_ ?_; exact rfl) | ((with_reducible apply xs_guard); exact rfl; exact rfl; intro c hc; cases c) | (refine xc_if rfl (fun hc => ?_) (fun hc => ?_)) | (refine xc_cond rfl (fun hc => ?_) (fun hc => ?_)))
  (with_reducible apply xs_call); exact rfl; exact rfl; exact mul_ret 9223372036854775808 2 (by decide) (by decide) (by decide) _
  rintro v w' ⟨rfl, ho⟩; replace hs := hs.call0 ho
  rw [tell_64]
  repeat' (first | refine vs (k := ?_) | refine ps (k := ?_) | (refine st hs (k := ?_); intro w hs) | (refine stA hs (k := ?_); intro w hs) | (refine al hs (k := ?_); intro b w hz hs) | (refine bx hs (k := ?_); intro b w hz hs) | (refine bs hs (k := ?_); intro b w hz hs) | refine XS.nil ?_ | refine then_of ?_ | refine xc_seq ?_ | (refine xc_region ?_ ?_; exact rfl) | refine xc_block ?_ | refine block_normal ?_ | refine xc_ret ?_ | refine then_ret ?_ | refine block_ret ?_ | refine xc_skip ?_ | refine xc_exit ?_ | refine then_exit ?_ | refine loopS_exit ?_ | refine loopS_ret ?_ | refine cutB_ret ?_ | refine cutN_ret ?_ | refine cutN_exit ?_ | refine block_exit ?_ | (refine block_other ?_ ?_; exact rfl) | (refine xc_true ?_ ?_; exact rfl) | (refine xc_false ?_ ?_; exact rfl) | ((with_reducible apply xs_guard); exact rfl; exact rfl; intro c hc; cases c) | (refine xc_if rfl (fun hc => ?_) (fun hc => ?_)) | (refine xc_cond rfl (fun hc => ?_) (fun hc => ?_)))
  refine dr [] hs (k := ?_); intro hX w hs
  refine tk 0 hX (k := ?_)
  refine tk 1 hX (k := ?_)
  refine tk 2 hX (k := ?_)
  refine tk 3 hX (k := ?_)
  refine tk 4 hX (k := ?_)
  refine tk 5 hX (k := ?_)
  refine dt 6 hX (k := ?_)
  (with_reducible apply xs_call); exact rfl; exact rfl; exact of_ret (-4) (by decide) (by decide) _
  rintro v w' ⟨rfl, ho⟩; replace hs := hs.call0 ho
  repeat' (first | refine vs (k := ?_) | refine ps (k := ?_) | (refine st hs (k := ?_); intro w hs) | (refine stA hs (k := ?_); intro w hs) | (refine al hs (k := ?_); intro b w hz hs) | (refine bx hs (k := ?_); intro b w hz hs) | (refine bs hs (k := ?_); intro b w hz hs) | refine XS.nil ?_ | refine then_of ?_ | refine xc_seq ?_ | (refine xc_region ?_ ?_; exact rfl) | refine xc_block ?_ | refine block_normal ?_ | refine xc_ret ?_ | refine then_ret ?_ | refine block_ret ?_ | refine xc_skip ?_ | refine xc_exit ?_ | refine then_exit ?_ | refine loopS_exit ?_ | refine loopS_ret ?_ | refine cutB_ret ?_ | refine cutN_ret ?_ | refine cutN_exit ?_ | refine block_exit ?_ | (refine block_other ?_ ?_; exact rfl) | (refine xc_true ?_ ?_; exact rfl) | (refine xc_false ?_ ?_; exact rfl) | ((with_reducible apply xs_guard); exact rfl; exact rfl; intro c hc; cases c) | (refine xc_if rfl (fun hc => ?_) (fun hc => ?_)) | (refine xc_cond rfl (fun hc => ?_) (fun hc => ?_)))
  refine dn (k := ?_)
  refine tk 7 hX (k := ?_)
  refine tk 8 hX (k := ?_)
  refine tk 9 hX (k := ?_)
  refine tk 10 hX (k := ?_)
  refine tk 11 hX (k := ?_)
  refine tk 12 hX (k := ?_)
  refine tk 13 hX (k := ?_)
  refine tk 14 hX (k := ?_)
  refine tk 15 hX (k := ?_)
  refine tk 16 hX (k := ?_)
  refine tk 17 hX (k := ?_)
  refine tk 18 hX (k := ?_)
  refine en (k := ?_)
  repeat' (first | refine vs (k := ?_) | refine ps (k := ?_) | (refine st hs (k := ?_); intro w hs) | (refine stA hs (k := ?_); intro w hs) | (refine al hs (k := ?_); intro b w hz hs) | (refine bx hs (k := ?_); intro b w hz hs) | (refine bs hs (k := ?_); intro b w hz hs) | refine XS.nil ?_ | refine then_of ?_ | refine xc_seq ?_ | (refine xc_region ?_ ?_; exact rfl) | refine xc_block ?_ | refine block_normal ?_ | refine xc_ret ?_ | refine then_ret ?_ | refine block_ret ?_ | refine xc_skip ?_ | refine xc_exit ?_ | refine then_exit ?_ | refine loopS_exit ?_ | refine loopS_ret ?_ | refine cutB_ret ?_ | refine cutN_ret ?_ | refine cutN_exit ?_ | refine block_exit ?_ | (refine block_other ?_ ?_; exact rfl) | (refine xc_true ?_ ?_; exact rfl) | (refine xc_false ?_ ?_; exact rfl) | ((with_reducible apply xs_guard); exact rfl; exact rfl; intro c hc; cases c) | (refine xc_if rfl (fun hc => ?_) (fun hc => ?_)) | (refine xc_cond rfl (fun hc => ?_) (fun hc => ?_)))
  first | refine rt (hq := ?_) | refine rt' (hq := ?_)
  exact ⟨rfl, hs.only0 rfl⟩

theorem tellV_cases (s : Int) : (InW s ∧ tellV s = .tuple #[wv s, .bool true]) ∨ (¬ InW s ∧ tellV s = .tuple #[wv 0, .bool false]) := by
  unfold tellV
  by_cases h : InW s
  · rw [if_pos h]; exact .inl ⟨h, rfl⟩
  · rw [if_neg h]; exact .inr ⟨h, rfl⟩
theorem cmp_anti (x y : Int) : (cmpI x y != IntKind.i64.wrap (0 - cmpI y x)) = false := by
  unfold cmpI
  simp only [wrap_i64]
  repeat' split
  all_goals first | rfl | omega
theorem cmp_self (x : Int) : cmpI x x = 0 := by unfold cmpI; simp
theorem cmp_pos {x y : Int} : 0 < cmpI x y ↔ y < x := by unfold cmpI; repeat' split <;> omega
theorem cmp_zero {x y : Int} : cmpI x y = 0 ↔ x = y := by unfold cmpI; repeat' split <;> omega
theorem cmp_neg {x y : Int} : cmpI x y < 0 ↔ x < y := by unfold cmpI; repeat' split <;> omega
theorem eqW (x y : Int) : (cellEq (.int .i64 (x / 18446744073709551616)) (.int .i64 (y / 18446744073709551616)) && cellEq (.int .u64 (x % 18446744073709551616)) (.int .u64 (y % 18446744073709551616))) = decide (x = y) := by
  show ((x / 18446744073709551616 == y / 18446744073709551616) && (x % 18446744073709551616 == y % 18446744073709551616)) = _
  by_cases h : x = y
  · subst h; simp
  · rw [decide_eq_false h]
    cases h1 : (x / 18446744073709551616 == y / 18446744073709551616)
    · rfl
    · cases h2 : (x % 18446744073709551616 == y % 18446744073709551616)
      · rfl
      · simp only [beq_iff_eq] at h1 h2
        omega
theorem cmp_beq (x y : Int) : (cmpI x y == 0) = decide (x = y) := by
  by_cases h : x = y
  · subst h; rw [cmp_self]; simp
  · rw [decide_eq_false h]
    cases h1 : (cmpI x y == 0)
    · rfl
    · simp only [beq_iff_eq] at h1
      exact absurd (cmp_zero.1 h1) h
set_option maxHeartbeats 1000000 in
theorem wideOrders_ret (x y z : Int) (hx : InW x) (hy : InW y) (hz' : InW z) (w0 : World) : Ret Try.prog 7 #[wv x, wv y, wv z] w0 fun v w' => v = .bool true ∧ Only [] w0 w' := by
  have hs := St.nil w0
  have h35 : ((cmpI x y == 0) != (cellEq (.int .i64 (x / 18446744073709551616)) (.int .i64 (y / 18446744073709551616)) && cellEq (.int .u64 (x % 18446744073709551616)) (.int .u64 (y % 18446744073709551616)))) = false := by
    rw [eqW, cmp_beq]; simp
  refine ret_of_xc Try.func7 (by kernel_rfl) rfl Try.ntmps7 rfl rfl rfl ?_
  repeat' (first | refine vs (k := ?_) | refine ps (k := ?_) | (refine st hs (k := ?_); intro w hs) | (refine stA hs (k := ?_); intro w hs) | (refine al hs (k := ?_); intro b w hz hs) | (refine bx hs (k := ?_); intro b w hz hs) | (refine bs hs (k := ?_); intro b w hz hs) | refine XS.nil ?_ | refine then_of ?_ | refine xc_seq ?_ | (refine xc_region ?_ ?_; exact rfl) | refine xc_block ?_ | refine block_normal ?_ | refine xc_ret ?_ | refine then_ret ?_ | refine block_ret ?_ | refine xc_skip ?_ | refine xc_exit ?_ | refine then_exit ?_ | refine loopS_exit ?_ | refine loopS_ret ?_ | refine cutB_ret ?_ | refine cutN_ret ?_ | refine cutN_exit ?_ | refine block_exit ?_ | (refine block_other ?_ ?_; exact rfl) | (refine xc_true ?_ ?_; exact rfl) | (refine xc_false ?_ ?_; exact rfl) | ((with_reducible apply xs_guard); exact rfl; exact rfl; intro c hc; cases c) | (refine xc_if rfl (fun hc => ?_) (fun hc => ?_)) | (refine xc_cond rfl (fun hc => ?_) (fun hc => ?_)))
  (with_reducible apply xs_call); exact rfl; exact rfl; exact awake1_ret _
  rintro v w' ⟨rfl, ho⟩; replace hs := hs.call0 ho
  repeat' (first | refine vs (k := ?_) | refine ps (k := ?_) | (refine st hs (k := ?_); intro w hs) | (refine stA hs (k := ?_); intro w hs) | (refine al hs (k := ?_); intro b w hz hs) | (refine bx hs (k := ?_); intro b w hz hs) | (refine bs hs (k := ?_); intro b w hz hs) | refine XS.nil ?_ | refine then_of ?_ | refine xc_seq ?_ | (refine xc_region ?_ ?_; exact rfl) | refine xc_block ?_ | refine block_normal ?_ | refine xc_ret ?_ | refine then_ret ?_ | refine block_ret ?_ | refine xc_skip ?_ | refine xc_exit ?_ | refine then_exit ?_ | refine loopS_exit ?_ | refine loopS_ret ?_ | refine cutB_ret ?_ | refine cutN_ret ?_ | refine cutN_exit ?_ | refine block_exit ?_ | (refine block_other ?_ ?_; exact rfl) | (refine xc_true ?_ ?_; exact rfl) | (refine xc_false ?_ ?_; exact rfl) | ((with_reducible apply xs_guard); exact rfl; exact rfl; intro c hc; cases c) | (refine xc_if rfl (fun hc => ?_) (fun hc => ?_)) | (refine xc_cond rfl (fun hc => ?_) (fun hc => ?_)))
  refine xc_cutK [3, 4, 5] [(54, .bool false)] hs ?_ ?_
  · refine dr [] hs (k := ?_); intro hX w hs
    refine tk 0 hX (k := ?_)
    refine tk 1 hX (k := ?_)
    refine tk 3 hX (k := ?_)
    refine tk 4 hX (k := ?_)
    refine dt 2 hX (k := ?_)
    (with_reducible apply xs_call); exact rfl; exact rfl; exact cmp_ret x y hx hy _
    rintro v w' ⟨rfl, ho⟩; replace hs := hs.call0 ho
    repeat' (first | refine vs (k := ?_) | refine ps (k := ?_) | (refine st hs (k := ?_); intro w hs) | (refine stA hs (k := ?_); intro w hs) | (refine al hs (k := ?_); intro b w hz hs) | (refine bx hs (k := ?_); intro b w hz hs) | (refine bs hs (k := ?_); intro b w hz hs) | refine XS.nil ?_ | refine then_of ?_ | refine xc_seq ?_ | (refine xc_region ?_ ?_; exact rfl) | refine xc_block ?_ | refine block_normal ?_ | refine xc_ret ?_ | refine then_ret ?_ | refine block_ret ?_ | refine xc_skip ?_ | refine xc_exit ?_ | refine then_exit ?_ | refine loopS_exit ?_ | refine loopS_ret ?_ | refine cutB_ret ?_ | refine cutN_ret ?_ | refine cutN_exit ?_ | refine block_exit ?_ | (refine block_other ?_ ?_; exact rfl) | (refine xc_true ?_ ?_; exact rfl) | (refine xc_false ?_ ?_; exact rfl) | ((with_reducible apply xs_guard); exact rfl; exact rfl; intro c hc; cases c) | (refine xc_if rfl (fun hc => ?_) (fun hc => ?_)) | (refine xc_cond rfl (fun hc => ?_) (fun hc => ?_)))
    refine dn (k := ?_)
    refine dt 5 hX (k := ?_)
    (with_reducible apply xs_call); exact rfl; exact rfl; exact cmp_ret y x hy hx _
    rintro v w' ⟨rfl, ho⟩; replace hs := hs.call0 ho
    repeat' (first | refine vs (k := ?_) | refine ps (k := ?_) | (refine st hs (k := ?_); intro w hs) | (refine stA hs (k := ?_); intro w hs) | (refine al hs (k := ?_); intro b w hz hs) | (refine bx hs (k := ?_); intro b w hz hs) | (refine bs hs (k := ?_); intro b w hz hs) | refine XS.nil ?_ | refine then_of ?_ | refine xc_seq ?_ | (refine xc_region ?_ ?_; exact rfl) | refine xc_block ?_ | refine block_normal ?_ | refine xc_ret ?_ | refine then_ret ?_ | refine block_ret ?_ | refine xc_skip ?_ | refine xc_exit ?_ | refine then_exit ?_ | refine loopS_exit ?_ | refine loopS_ret ?_ | refine cutB_ret ?_ | refine cutN_ret ?_ | refine cutN_exit ?_ | refine block_exit ?_ | (refine block_other ?_ ?_; exact rfl) | (refine xc_true ?_ ?_; exact rfl) | (refine xc_false ?_ ?_; exact rfl) | ((with_reducible apply xs_guard); exact rfl; exact rfl; intro c hc; cases c) | (refine xc_if rfl (fun hc => ?_) (fun hc => ?_)) | (refine xc_cond rfl (fun hc => ?_) (fun hc => ?_)))
    refine dn (k := ?_)
    refine tk 6 hX (k := ?_)
    refine tk 7 hX (k := ?_)
    refine xa_set 20 (v := .bool false) (congrArg Value.bool (cmp_anti x y)) ?_
    refine tk 8 hX (k := ?_)
    refine tk 9 hX (k := ?_)
    refine tk 10 hX (k := ?_)
    refine dt 11 hX (k := ?_)
    (with_reducible apply xs_call); exact rfl; exact rfl; exact cmp_ret x x hx hx _
    rintro v w' ⟨rfl, ho⟩; replace hs := hs.call0 ho
    rw [cmp_self]
    repeat' (first | refine vs (k := ?_) | refine ps (k := ?_) | (refine st hs (k := ?_); intro w hs) | (refine stA hs (k := ?_); intro w hs) | (refine al hs (k := ?_); intro b w hz hs) | (refine bx hs (k := ?_); intro b w hz hs) | (refine bs hs (k := ?_); intro b w hz hs) | refine XS.nil ?_ | refine then_of ?_ | refine xc_seq ?_ | (refine xc_region ?_ ?_; exact rfl) | refine xc_block ?_ | refine block_normal ?_ | refine xc_ret ?_ | refine then_ret ?_ | refine block_ret ?_ | refine xc_skip ?_ | refine xc_exit ?_ | refine then_exit ?_ | refine loopS_exit ?_ | refine loopS_ret ?_ | refine cutB_ret ?_ | refine cutN_ret ?_ | refine cutN_exit ?_ | refine block_exit ?_ | (refine block_other ?_ ?_; exact rfl) | (refine xc_true ?_ ?_; exact rfl) | (refine xc_false ?_ ?_; exact rfl) | ((with_reducible apply xs_guard); exact rfl; exact rfl; intro c hc; cases c) | (refine xc_if rfl (fun hc => ?_) (fun hc => ?_)) | (refine xc_cond rfl (fun hc => ?_) (fun hc => ?_)))
    refine dn (k := ?_)
    refine tk 12 hX (k := ?_)
    refine tk 13 hX (k := ?_)
    refine tk 14 hX (k := ?_)
    refine tk 15 hX (k := ?_)
    refine tk 16 hX (k := ?_)
    refine tk 19 hX (k := ?_)
    refine tk 20 hX (k := ?_)
    refine tk 21 hX (k := ?_)
    refine dt 17 hX (k := ?_)
    (with_reducible apply xs_call); exact rfl; exact rfl; exact cmp_ret x y hx hy _
    rintro v w' ⟨rfl, ho⟩; replace hs := hs.call0 ho
    repeat' (first | refine vs (k := ?_) | refine ps (k := ?_) | (refine st hs (k := ?_); intro w hs) | (refine stA hs (k := ?_); intro w hs) | (refine al hs (k := ?_); intro b w hz hs) | (refine bx hs (k := ?_); intro b w hz hs) | (refine bs hs (k := ?_); intro b w hz hs) | refine XS.nil ?_ | refine then_of ?_ | refine xc_seq ?_ | (refine xc_region ?_ ?_; exact rfl) | refine xc_block ?_ | refine block_normal ?_ | refine xc_ret ?_ | refine then_ret ?_ | refine block_ret ?_ | refine xc_skip ?_ | refine xc_exit ?_ | refine then_exit ?_ | refine loopS_exit ?_ | refine loopS_ret ?_ | refine cutB_ret ?_ | refine cutN_ret ?_ | refine cutN_exit ?_ | refine block_exit ?_ | (refine block_other ?_ ?_; exact rfl) | (refine xc_true ?_ ?_; exact rfl) | (refine xc_false ?_ ?_; exact rfl) | ((with_reducible apply xs_guard); exact rfl; exact rfl; intro c hc; cases c) | (refine xc_if rfl (fun hc => ?_) (fun hc => ?_)) | (refine xc_cond rfl (fun hc => ?_) (fun hc => ?_)))
    refine dn (k := ?_)
    refine tk 18 hX (k := ?_)
    refine tk 22 hX (k := ?_)
    refine xa_set 35 (v := .bool false) (congrArg Value.bool h35) ?_
    refine tk 23 hX (k := ?_)
    refine tk 24 hX (k := ?_)
    refine tk 25 hX (k := ?_)
    refine tk 26 hX (k := ?_)
    refine dt 27 hX (k := ?_)
    (with_reducible apply xs_call); exact rfl; exact rfl; exact cmp_ret x y hx hy _
    rintro v w' ⟨rfl, ho⟩; replace hs := hs.call0 ho
    repeat' (first | refine vs (k := ?_) | refine ps (k := ?_) | (refine st hs (k := ?_); intro w hs) | (refine stA hs (k := ?_); intro w hs) | (refine al hs (k := ?_); intro b w hz hs) | (refine bx hs (k := ?_); intro b w hz hs) | (refine bs hs (k := ?_); intro b w hz hs) | refine XS.nil ?_ | refine then_of ?_ | refine xc_seq ?_ | (refine xc_region ?_ ?_; exact rfl) | refine xc_block ?_ | refine block_normal ?_ | refine xc_ret ?_ | refine then_ret ?_ | refine block_ret ?_ | refine xc_skip ?_ | refine xc_exit ?_ | refine then_exit ?_ | refine loopS_exit ?_ | refine loopS_ret ?_ | refine cutB_ret ?_ | refine cutN_ret ?_ | refine cutN_exit ?_ | refine block_exit ?_ | (refine block_other ?_ ?_; exact rfl) | (refine xc_true ?_ ?_; exact rfl) | (refine xc_false ?_ ?_; exact rfl) | ((with_reducible apply xs_guard); exact rfl; exact rfl; intro c hc; cases c) | (refine xc_if rfl (fun hc => ?_) (fun hc => ?_)) | (refine xc_cond rfl (fun hc => ?_) (fun hc => ?_)))
    refine dn (k := ?_)
    refine tk 28 hX (k := ?_)
    refine tk 29 hX (k := ?_)
    refine xa_late 42 rfl ?_; intro c h42; cases c
    · refine pt 30 hX (k := ?_)
      refine pt 31 hX (k := ?_)
      refine pt 32 hX (k := ?_)
      refine pt 33 hX (k := ?_)
      refine tk 34 hX (k := ?_)
      refine tk 35 hX (k := ?_)
      refine pt 36 hX (k := ?_)
      refine pt 37 hX (k := ?_)
      refine pt 38 hX (k := ?_)
      refine pt 39 hX (k := ?_)
      refine tk 40 hX (k := ?_)
      refine tk 41 hX (k := ?_)
      refine en (k := ?_)
      exact cutN_normal () (by (repeat (first | exact agree_nil | (apply agree_cons; exact rfl)))) hs
    · refine tk 30 hX (k := ?_)
      refine tk 31 hX (k := ?_)
      refine dt 32 hX (k := ?_)
      (with_reducible apply xs_call); exact rfl; exact rfl; exact cmp_ret y z hy hz' _
      rintro v w' ⟨rfl, ho⟩; replace hs := hs.call0 ho
      repeat' (first | refine vs (k := ?_) | refine ps (k := ?_) | (refine st hs (k := ?_); intro w hs) | (refine stA hs (k := ?_); intro w hs) | (refine al hs (k := ?_); intro b w hz hs) | (refine bx hs (k := ?_); intro b w hz hs) | (refine bs hs (k := ?_); intro b w hz hs) | refine XS.nil ?_ | refine then_of ?_ | refine xc_seq ?_ | (refine xc_region ?_ ?_; exact rfl) | refine xc_block ?_ | refine block_normal ?_ | refine xc_ret ?_ | refine then_ret ?_ | refine block_ret ?_ | refine xc_skip ?_ | refine xc_exit ?_ | refine then_exit ?_ | refine loopS_exit ?_ | refine loopS_ret ?_ | refine cutB_ret ?_ | refine cutN_ret ?_ | refine cutN_exit ?_ | refine block_exit ?_ | (refine block_other ?_ ?_; exact rfl) | (refine xc_true ?_ ?_; exact rfl) | (refine xc_false ?_ ?_; exact rfl) | ((with_reducible apply xs_guard); exact rfl; exact rfl; intro c hc; cases c) | (refine xc_if rfl (fun hc => ?_) (fun hc => ?_)) | (refine xc_cond rfl (fun hc => ?_) (fun hc => ?_)))
      refine dn (k := ?_)
      refine tk 33 hX (k := ?_)
      refine xa_late 46 rfl ?_; intro c h46; cases c
      · refine tk 34 hX (k := ?_)
        refine tk 35 hX (k := ?_)
        refine pt 36 hX (k := ?_)
        refine pt 37 hX (k := ?_)
        refine pt 38 hX (k := ?_)
        refine pt 39 hX (k := ?_)
        refine tk 40 hX (k := ?_)
        refine tk 41 hX (k := ?_)
        refine en (k := ?_)
        exact cutN_normal () (by (repeat (first | exact agree_nil | (apply agree_cons; exact rfl)))) hs
      · refine tk 34 hX (k := ?_)
        refine tk 35 hX (k := ?_)
        refine tk 36 hX (k := ?_)
        refine tk 37 hX (k := ?_)
        refine dt 38 hX (k := ?_)
        (with_reducible apply xs_call); exact rfl; exact rfl; exact cmp_ret x z hx hz' _
        rintro v w' ⟨rfl, ho⟩; replace hs := hs.call0 ho
        repeat' (first | refine vs (k := ?_) | refine ps (k := ?_) | (refine st hs (k := ?_); intro w hs) | (refine stA hs (k := ?_); intro w hs) | (refine al hs (k := ?_); intro b w hz hs) | (refine bx hs (k := ?_); intro b w hz hs) | (refine bs hs (k := ?_); intro b w hz hs) | refine XS.nil ?_ | refine then_of ?_ | refine xc_seq ?_ | (refine xc_region ?_ ?_; exact rfl) | refine xc_block ?_ | refine block_normal ?_ | refine xc_ret ?_ | refine then_ret ?_ | refine block_ret ?_ | refine xc_skip ?_ | refine xc_exit ?_ | refine then_exit ?_ | refine loopS_exit ?_ | refine loopS_ret ?_ | refine cutB_ret ?_ | refine cutN_ret ?_ | refine cutN_exit ?_ | refine block_exit ?_ | (refine block_other ?_ ?_; exact rfl) | (refine xc_true ?_ ?_; exact rfl) | (refine xc_false ?_ ?_; exact rfl) | ((with_reducible apply xs_guard); exact rfl; exact rfl; intro c hc; cases c) | (refine xc_if rfl (fun hc => ?_) (fun hc => ?_)) | (refine xc_cond rfl (fun hc => ?_) (fun hc => ?_)))
        refine dn (k := ?_)
        refine tk 39 hX (k := ?_)
        have h52 : decide (cmpI x z ≤ 0) = false := by
          have h1 := cmp_pos.1 (of_decide_eq_true h42)
          have h2 := cmp_pos.1 (of_decide_eq_true h46)
          have h3 : 0 < cmpI x z := cmp_pos.2 (by omega)
          exact decide_eq_false (by omega)
        refine xa_set 52 (v := .bool false) (congrArg Value.bool h52) ?_
        refine tk 40 hX (k := ?_)
        refine tk 41 hX (k := ?_)
        refine en (k := ?_)
        exact cutN_normal () (by (repeat (first | exact agree_nil | (apply agree_cons; exact rfl)))) hs
  · intro env w hs
    repeat' (first | refine vs (k := ?_) | refine ps (k := ?_) | (refine st hs (k := ?_); intro w hs) | (refine stA hs (k := ?_); intro w hs) | (refine al hs (k := ?_); intro b w hz hs) | (refine bx hs (k := ?_); intro b w hz hs) | (refine bs hs (k := ?_); intro b w hz hs) | refine XS.nil ?_ | refine then_of ?_ | refine xc_seq ?_ | (refine xc_region ?_ ?_; exact rfl) | refine xc_block ?_ | refine block_normal ?_ | refine xc_ret ?_ | refine then_ret ?_ | refine block_ret ?_ | refine xc_skip ?_ | refine xc_exit ?_ | refine then_exit ?_ | refine loopS_exit ?_ | refine loopS_ret ?_ | refine cutB_ret ?_ | refine cutN_ret ?_ | refine cutN_exit ?_ | refine block_exit ?_ | (refine block_other ?_ ?_; exact rfl) | (refine xc_true ?_ ?_; exact rfl) | (refine xc_false ?_ ?_; exact rfl) | ((with_reducible apply xs_guard); exact rfl; exact rfl; intro c hc; cases c) | (refine xc_if rfl (fun hc => ?_) (fun hc => ?_)) | (refine xc_cond rfl (fun hc => ?_) (fun hc => ?_)))
    (with_reducible apply xs_call); exact rfl; exact rfl; exact add_ret x z hx hz' _
    rintro v w' ⟨rfl, ho⟩; replace hs := hs.call0 ho
    rcases tellV_cases (x + z) with ⟨i1, t1⟩ | ⟨i1, t1⟩
    · rw [t1]
      repeat' (first | refine vs (k := ?_) | refine ps (k := ?_) | (refine st hs (k := ?_); intro w hs) | (refine stA hs (k := ?_); intro w hs) | (refine al hs (k := ?_); intro b w hz hs) | (refine bx hs (k := ?_); intro b w hz hs) | (refine bs hs (k := ?_); intro b w hz hs) | refine XS.nil ?_ | refine then_of ?_ | refine xc_seq ?_ | (refine xc_region ?_ ?_; exact rfl) | refine xc_block ?_ | refine block_normal ?_ | refine xc_ret ?_ | refine then_ret ?_ | refine block_ret ?_ | refine xc_skip ?_ | refine xc_exit ?_ | refine then_exit ?_ | refine loopS_exit ?_ | refine loopS_ret ?_ | refine cutB_ret ?_ | refine cutN_ret ?_ | refine cutN_exit ?_ | refine block_exit ?_ | (refine block_other ?_ ?_; exact rfl) | (refine xc_true ?_ ?_; exact rfl) | (refine xc_false ?_ ?_; exact rfl) | ((with_reducible apply xs_guard); exact rfl; exact rfl; intro c hc; cases c) | (refine xc_if rfl (fun hc => ?_) (fun hc => ?_)) | (refine xc_cond rfl (fun hc => ?_) (fun hc => ?_)))
      (with_reducible apply xs_call); exact rfl; exact rfl; exact add_ret y z hy hz' _
      rintro v w' ⟨rfl, ho⟩; replace hs := hs.call0 ho
      rcases tellV_cases (y + z) with ⟨i2, t2⟩ | ⟨i2, t2⟩
      · rw [t2]
        repeat' (first | refine vs (k := ?_) | refine ps (k := ?_) | (refine st hs (k := ?_); intro w hs) | (refine stA hs (k := ?_); intro w hs) | (refine al hs (k := ?_); intro b w hz hs) | (refine bx hs (k := ?_); intro b w hz hs) | (refine bs hs (k := ?_); intro b w hz hs) | refine XS.nil ?_ | refine then_of ?_ | refine xc_seq ?_ | (refine xc_region ?_ ?_; exact rfl) | refine xc_block ?_ | refine block_normal ?_ | refine xc_ret ?_ | refine then_ret ?_ | refine block_ret ?_ | refine xc_skip ?_ | refine xc_exit ?_ | refine then_exit ?_ | refine loopS_exit ?_ | refine loopS_ret ?_ | refine cutB_ret ?_ | refine cutN_ret ?_ | refine cutN_exit ?_ | refine block_exit ?_ | (refine block_other ?_ ?_; exact rfl) | (refine xc_true ?_ ?_; exact rfl) | (refine xc_false ?_ ?_; exact rfl) | ((with_reducible apply xs_guard); exact rfl; exact rfl; intro c hc; cases c) | (refine xc_if rfl (fun hc => ?_) (fun hc => ?_)) | (refine xc_cond rfl (fun hc => ?_) (fun hc => ?_)))
        refine dr [] hs (k := ?_); intro hX w hs
        refine tk 0 hX (k := ?_)
        refine tk 1 hX (k := ?_)
        refine tk 2 hX (k := ?_)
        refine tk 3 hX (k := ?_)
        refine tk 4 hX (k := ?_)
        refine tk 5 hX (k := ?_)
        refine tk 6 hX (k := ?_)
        refine tk 7 hX (k := ?_)
        refine tk 8 hX (k := ?_)
        refine tk 10 hX (k := ?_)
        refine tk 11 hX (k := ?_)
        refine dt 9 hX (k := ?_)
        (with_reducible apply xs_call); exact rfl; exact rfl; exact cmp_ret (x + z) (y + z) i1 i2 _
        rintro v w' ⟨rfl, ho⟩; replace hs := hs.call0 ho
        repeat' (first | refine vs (k := ?_) | refine ps (k := ?_) | (refine st hs (k := ?_); intro w hs) | (refine stA hs (k := ?_); intro w hs) | (refine al hs (k := ?_); intro b w hz hs) | (refine bx hs (k := ?_); intro b w hz hs) | (refine bs hs (k := ?_); intro b w hz hs) | refine XS.nil ?_ | refine then_of ?_ | refine xc_seq ?_ | (refine xc_region ?_ ?_; exact rfl) | refine xc_block ?_ | refine block_normal ?_ | refine xc_ret ?_ | refine then_ret ?_ | refine block_ret ?_ | refine xc_skip ?_ | refine xc_exit ?_ | refine then_exit ?_ | refine loopS_exit ?_ | refine loopS_ret ?_ | refine cutB_ret ?_ | refine cutN_ret ?_ | refine cutN_exit ?_ | refine block_exit ?_ | (refine block_other ?_ ?_; exact rfl) | (refine xc_true ?_ ?_; exact rfl) | (refine xc_false ?_ ?_; exact rfl) | ((with_reducible apply xs_guard); exact rfl; exact rfl; intro c hc; cases c) | (refine xc_if rfl (fun hc => ?_) (fun hc => ?_)) | (refine xc_cond rfl (fun hc => ?_) (fun hc => ?_)))
        refine dn (k := ?_)
        refine dt 12 hX (k := ?_)
        (with_reducible apply xs_call); exact rfl; exact rfl; exact cmp_ret x y hx hy _
        rintro v w' ⟨rfl, ho⟩; replace hs := hs.call0 ho
        repeat' (first | refine vs (k := ?_) | refine ps (k := ?_) | (refine st hs (k := ?_); intro w hs) | (refine stA hs (k := ?_); intro w hs) | (refine al hs (k := ?_); intro b w hz hs) | (refine bx hs (k := ?_); intro b w hz hs) | (refine bs hs (k := ?_); intro b w hz hs) | refine XS.nil ?_ | refine then_of ?_ | refine xc_seq ?_ | (refine xc_region ?_ ?_; exact rfl) | refine xc_block ?_ | refine block_normal ?_ | refine xc_ret ?_ | refine then_ret ?_ | refine block_ret ?_ | refine xc_skip ?_ | refine xc_exit ?_ | refine then_exit ?_ | refine loopS_exit ?_ | refine loopS_ret ?_ | refine cutB_ret ?_ | refine cutN_ret ?_ | refine cutN_exit ?_ | refine block_exit ?_ | (refine block_other ?_ ?_; exact rfl) | (refine xc_true ?_ ?_; exact rfl) | (refine xc_false ?_ ?_; exact rfl) | ((with_reducible apply xs_guard); exact rfl; exact rfl; intro c hc; cases c) | (refine xc_if rfl (fun hc => ?_) (fun hc => ?_)) | (refine xc_cond rfl (fun hc => ?_) (fun hc => ?_)))
        refine dn (k := ?_)
        refine tk 13 hX (k := ?_)
        have h80 : (cmpI (x + z) (y + z) == cmpI x y) = true := by
          have : cmpI (x + z) (y + z) = cmpI x y := by unfold cmpI; repeat' split <;> omega
          rw [this]; simp
        refine xa_set 80 (v := .bool true) (congrArg Value.bool h80) ?_
        refine tk 14 hX (k := ?_)
        refine tk 15 hX (k := ?_)
        refine en (k := ?_)
        repeat' (first | refine vs (k := ?_) | refine ps (k := ?_) | (refine st hs (k := ?_); intro w hs) | (refine stA hs (k := ?_); intro w hs) | (refine al hs (k := ?_); intro b w hz hs) | (refine bx hs (k := ?_); intro b w hz hs) | (refine bs hs (k := ?_); intro b w hz hs) | refine XS.nil ?_ | refine then_of ?_ | refine xc_seq ?_ | (refine xc_region ?_ ?_; exact rfl) | refine xc_block ?_ | refine block_normal ?_ | refine xc_ret ?_ | refine then_ret ?_ | refine block_ret ?_ | refine xc_skip ?_ | refine xc_exit ?_ | refine then_exit ?_ | refine loopS_exit ?_ | refine loopS_ret ?_ | refine cutB_ret ?_ | refine cutN_ret ?_ | refine cutN_exit ?_ | refine block_exit ?_ | (refine block_other ?_ ?_; exact rfl) | (refine xc_true ?_ ?_; exact rfl) | (refine xc_false ?_ ?_; exact rfl) | ((with_reducible apply xs_guard); exact rfl; exact rfl; intro c hc; cases c) | (refine xc_if rfl (fun hc => ?_) (fun hc => ?_)) | (refine xc_cond rfl (fun hc => ?_) (fun hc => ?_)))
        first | refine rt (hq := ?_) | refine rt' (hq := ?_)
        exact ⟨rfl, hs.only0 rfl⟩
      · rw [t2]
        repeat' (first | refine vs (k := ?_) | refine ps (k := ?_) | (refine st hs (k := ?_); intro w hs) | (refine stA hs (k := ?_); intro w hs) | (refine al hs (k := ?_); intro b w hz hs) | (refine bx hs (k := ?_); intro b w hz hs) | (refine bs hs (k := ?_); intro b w hz hs) | refine XS.nil ?_ | refine then_of ?_ | refine xc_seq ?_ | (refine xc_region ?_ ?_; exact rfl) | refine xc_block ?_ | refine block_normal ?_ | refine xc_ret ?_ | refine then_ret ?_ | refine block_ret ?_ | refine xc_skip ?_ | refine xc_exit ?_ | refine then_exit ?_ | refine loopS_exit ?_ | refine loopS_ret ?_ | refine cutB_ret ?_ | refine cutN_ret ?_ | refine cutN_exit ?_ | refine block_exit ?_ | (refine block_other ?_ ?_; exact rfl) | (refine xc_true ?_ ?_; exact rfl) | (refine xc_false ?_ ?_; exact rfl) | ((with_reducible apply xs_guard); exact rfl; exact rfl; intro c hc; cases c) | (refine xc_if rfl (fun hc => ?_) (fun hc => ?_)) | (refine xc_cond rfl (fun hc => ?_) (fun hc => ?_)))
        refine dr [] hs (k := ?_); intro hX w hs
        refine tk 0 hX (k := ?_)
        refine tk 1 hX (k := ?_)
        refine tk 2 hX (k := ?_)
        refine tk 3 hX (k := ?_)
        refine tk 4 hX (k := ?_)
        refine tk 5 hX (k := ?_)
        refine tk 6 hX (k := ?_)
        refine pt 7 hX (k := ?_)
        refine pt 8 hX (k := ?_)
        refine pt 10 hX (k := ?_)
        refine pt 11 hX (k := ?_)
        refine pt 9 hX (k := ?_)
        refine pt 12 hX (k := ?_)
        refine pt 13 hX (k := ?_)
        refine tk 14 hX (k := ?_)
        refine tk 15 hX (k := ?_)
        refine en (k := ?_)
        repeat' (first | refine vs (k := ?_) | refine ps (k := ?_) | (refine st hs (k := ?_); intro w hs) | (refine stA hs (k := ?_); intro w hs) | (refine al hs (k := ?_); intro b w hz hs) | (refine bx hs (k := ?_); intro b w hz hs) | (refine bs hs (k := ?_); intro b w hz hs) | refine XS.nil ?_ | refine then_of ?_ | refine xc_seq ?_ | (refine xc_region ?_ ?_; exact rfl) | refine xc_block ?_ | refine block_normal ?_ | refine xc_ret ?_ | refine then_ret ?_ | refine block_ret ?_ | refine xc_skip ?_ | refine xc_exit ?_ | refine then_exit ?_ | refine loopS_exit ?_ | refine loopS_ret ?_ | refine cutB_ret ?_ | refine cutN_ret ?_ | refine cutN_exit ?_ | refine block_exit ?_ | (refine block_other ?_ ?_; exact rfl) | (refine xc_true ?_ ?_; exact rfl) | (refine xc_false ?_ ?_; exact rfl) | ((with_reducible apply xs_guard); exact rfl; exact rfl; intro c hc; cases c) | (refine xc_if rfl (fun hc => ?_) (fun hc => ?_)) | (refine xc_cond rfl (fun hc => ?_) (fun hc => ?_)))
        first | refine rt (hq := ?_) | refine rt' (hq := ?_)
        exact ⟨rfl, hs.only0 rfl⟩
    · rw [t1]
      repeat' (first | refine vs (k := ?_) | refine ps (k := ?_) | (refine st hs (k := ?_); intro w hs) | (refine stA hs (k := ?_); intro w hs) | (refine al hs (k := ?_); intro b w hz hs) | (refine bx hs (k := ?_); intro b w hz hs) | (refine bs hs (k := ?_); intro b w hz hs) | refine XS.nil ?_ | refine then_of ?_ | refine xc_seq ?_ | (refine xc_region ?_ ?_; exact rfl) | refine xc_block ?_ | refine block_normal ?_ | refine xc_ret ?_ | refine then_ret ?_ | refine block_ret ?_ | refine xc_skip ?_ | refine xc_exit ?_ | refine then_exit ?_ | refine loopS_exit ?_ | refine loopS_ret ?_ | refine cutB_ret ?_ | refine cutN_ret ?_ | refine cutN_exit ?_ | refine block_exit ?_ | (refine block_other ?_ ?_; exact rfl) | (refine xc_true ?_ ?_; exact rfl) | (refine xc_false ?_ ?_; exact rfl) | ((with_reducible apply xs_guard); exact rfl; exact rfl; intro c hc; cases c) | (refine xc_if rfl (fun hc => ?_) (fun hc => ?_)) | (refine xc_cond rfl (fun hc => ?_) (fun hc => ?_)))
      (with_reducible apply xs_call); exact rfl; exact rfl; exact add_ret y z hy hz' _
      rintro v w' ⟨rfl, ho⟩; replace hs := hs.call0 ho
      obtain ⟨t, b', t2, _⟩ := tellV_shape (y + z)
      rw [t2]
      repeat' (first | refine vs (k := ?_) | refine ps (k := ?_) | (refine st hs (k := ?_); intro w hs) | (refine stA hs (k := ?_); intro w hs) | (refine al hs (k := ?_); intro b w hz hs) | (refine bx hs (k := ?_); intro b w hz hs) | (refine bs hs (k := ?_); intro b w hz hs) | refine XS.nil ?_ | refine then_of ?_ | refine xc_seq ?_ | (refine xc_region ?_ ?_; exact rfl) | refine xc_block ?_ | refine block_normal ?_ | refine xc_ret ?_ | refine then_ret ?_ | refine block_ret ?_ | refine xc_skip ?_ | refine xc_exit ?_ | refine then_exit ?_ | refine loopS_exit ?_ | refine loopS_ret ?_ | refine cutB_ret ?_ | refine cutN_ret ?_ | refine cutN_exit ?_ | refine block_exit ?_ | (refine block_other ?_ ?_; exact rfl) | (refine xc_true ?_ ?_; exact rfl) | (refine xc_false ?_ ?_; exact rfl) | ((with_reducible apply xs_guard); exact rfl; exact rfl; intro c hc; cases c) | (refine xc_if rfl (fun hc => ?_) (fun hc => ?_)) | (refine xc_cond rfl (fun hc => ?_) (fun hc => ?_)))
      refine dr [] hs (k := ?_); intro hX w hs
      refine tk 0 hX (k := ?_)
      refine tk 1 hX (k := ?_)
      refine tk 2 hX (k := ?_)
      refine pt 3 hX (k := ?_)
      refine pt 4 hX (k := ?_)
      refine tk 5 hX (k := ?_)
      refine tk 6 hX (k := ?_)
      refine pt 7 hX (k := ?_)
      refine pt 8 hX (k := ?_)
      refine pt 10 hX (k := ?_)
      refine pt 11 hX (k := ?_)
      refine pt 9 hX (k := ?_)
      refine pt 12 hX (k := ?_)
      refine pt 13 hX (k := ?_)
      refine tk 14 hX (k := ?_)
      refine tk 15 hX (k := ?_)
      refine en (k := ?_)
      repeat' (first | refine vs (k := ?_) | refine ps (k := ?_) | (refine st hs (k := ?_); intro w hs) | (refine stA hs (k := ?_); intro w hs) | (refine al hs (k := ?_); intro b w hz hs) | (refine bx hs (k := ?_); intro b w hz hs) | (refine bs hs (k := ?_); intro b w hz hs) | refine XS.nil ?_ | refine then_of ?_ | refine xc_seq ?_ | (refine xc_region ?_ ?_; exact rfl) | refine xc_block ?_ | refine block_normal ?_ | refine xc_ret ?_ | refine then_ret ?_ | refine block_ret ?_ | refine xc_skip ?_ | refine xc_exit ?_ | refine then_exit ?_ | refine loopS_exit ?_ | refine loopS_ret ?_ | refine cutB_ret ?_ | refine cutN_ret ?_ | refine cutN_exit ?_ | refine block_exit ?_ | (refine block_other ?_ ?_; exact rfl) | (refine xc_true ?_ ?_; exact rfl) | (refine xc_false ?_ ?_; exact rfl) | ((with_reducible apply xs_guard); exact rfl; exact rfl; intro c hc; cases c) | (refine xc_if rfl (fun hc => ?_) (fun hc => ?_)) | (refine xc_cond rfl (fun hc => ?_) (fun hc => ?_)))
      first | refine rt (hq := ?_) | refine rt' (hq := ?_)
      exact ⟨rfl, hs.only0 rfl⟩
end Go.Proofs.YtjooegonmdmajaaX
