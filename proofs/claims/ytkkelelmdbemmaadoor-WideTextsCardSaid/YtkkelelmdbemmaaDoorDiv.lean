/- Layer 1, wide, fourth part: quotients. -/
import Derived.Test.YtkkelelmdbemmaaDoorWide3
import Derived.Test.YtkkelelmdbemmaaDoorKd
set_option linter.unusedVariables false
set_option linter.unusedSimpArgs false
set_option maxRecDepth 100000
namespace Go.Proofs.YtkkelelmdbemmaaDoorX
open Go Go.RowKit
attribute [local irreducible] XS XC XA thenE blockE retE loopE loopS cutB cutN doneE SE

theorem wrap_u8 (n : Int) : IntKind.u8.wrap n = n % 256 := by simp [IntKind.wrap, IntKind.signed, IntKind.bits]
theorem len64_end {x X c : Int} (k : Nat) (p : Int) (hk : k ≤ 56) (hp : (2 : Int) ^ k = p) (hc : c = k) (hX : X = x / p) (h : k = 0 ∨ 0 < X) (h0 : 0 ≤ X) (h1 : X < 256) :
    ∃ L, packed [Value.int .i64 (IntKind.i64.wrap (c + IntKind.i64.wrap ((len8 (IntKind.u8.wrap X).toNat : Nat) : Int)))] = .int .i64 L ∧ BitLen x L 64 := by
  have e1 : IntKind.u8.wrap X = X := by rw [wrap_u8]; omega
  have hb := bl_8 h0 h1
  have hl : len8 X.toNat ≤ 8 := (len8_ok X.toNat (by omega)).2.2
  refine ⟨len8 X.toNat + k, ?_, ?_⟩
  · rw [e1]
    simp only [wrap_i64, packed]
    congr 1
    omega
  · rcases h with h | h
    · subst h
      have : X = x := by rw [hX, ← hp]; simp
      subst this
      simpa using hb.mono (show 8 ≤ 64 by decide)
    · subst hX
      exact (bl_shift k hp hb h).mono (by omega)
theorem len64_ret (x : Int) (hx0 : 0 ≤ x) (hx1 : x < 18446744073709551616) (w0 : World) : Ret Tryd.prog 41 #[.int .u64 x] w0 fun v w' => (∃ L, v = .int .i64 L ∧ BitLen x L 64) ∧ Only [] w0 w' := by
  have hs := St.nil w0
  refine ret_of_xc Tryd.func41 (by kernel_rfl) rfl Tryd.ntmps41 rfl rfl rfl ?_
  repeat' (first | refine vs (k := ?_) | refine ps (k := ?_) | (refine st hs (k := ?_); intro w hs) | (refine stA hs (k := ?_); intro w hs) | (refine al hs (k := ?_); intro b w hz hs) | (refine bx hs (k := ?_); intro b w hz hs) | (refine bs hs (k := ?_); intro b w hz hs) | refine XS.nil ?_ | refine then_of ?_ | refine xc_seq ?_ | (refine xc_region ?_ ?_; exact rfl) | refine xc_block ?_ | refine block_normal ?_ | refine xc_ret ?_ | refine then_ret ?_ | refine block_ret ?_ | refine xc_skip ?_ | refine xc_exit ?_ | refine then_exit ?_ | refine loopS_exit ?_ | refine loopS_ret ?_ | refine cutB_ret ?_ | refine cutN_ret ?_ | refine cutN_exit ?_ | refine block_exit ?_ | (refine block_other ?_ ?_; exact rfl) | (refine xc_true ?_ ?_; exact rfl) | (refine xc_false ?_ ?_; exact rfl) | ((with_reducible apply xs_guard); exact rfl; exact rfl; intro c hc; (fail_if_success (have : true = c := hc)); (fail_if_success (have : false = c := hc)); cases c) | (refine xc_if rfl (fun hc => ?_) (fun hc => ?_)) | (refine xc_cond rfl (fun hc => ?_) (fun hc => ?_)))
  all_goals (have hs := hs; (with_reducible apply xs_val); exact rfl; (with_reducible apply r_indexT tabOk 256 len8); exact rfl; exact rfl; exact rfl; kernel_rfl; (rw [wrap_u8]; omega); (rw [wrap_u8]; omega))
  all_goals (repeat' (first | refine vs (k := ?_) | refine ps (k := ?_) | (refine st hs (k := ?_); intro w hs) | (refine stA hs (k := ?_); intro w hs) | (refine al hs (k := ?_); intro b w hz hs) | (refine bx hs (k := ?_); intro b w hz hs) | (refine bs hs (k := ?_); intro b w hz hs) | refine XS.nil ?_ | refine then_of ?_ | refine xc_seq ?_ | (refine xc_region ?_ ?_; exact rfl) | refine xc_block ?_ | refine block_normal ?_ | refine xc_ret ?_ | refine then_ret ?_ | refine block_ret ?_ | refine xc_skip ?_ | refine xc_exit ?_ | refine then_exit ?_ | refine loopS_exit ?_ | refine loopS_ret ?_ | refine cutB_ret ?_ | refine cutN_ret ?_ | refine cutN_exit ?_ | refine block_exit ?_ | (refine block_other ?_ ?_; exact rfl) | (refine xc_true ?_ ?_; exact rfl) | (refine xc_false ?_ ?_; exact rfl) | ((with_reducible apply xs_guard); exact rfl; exact rfl; intro c hc; (fail_if_success (have : true = c := hc)); (fail_if_success (have : false = c := hc)); cases c) | (refine xc_if rfl (fun hc => ?_) (fun hc => ?_)) | (refine xc_cond rfl (fun hc => ?_) (fun hc => ?_))))
  all_goals (first | refine rt (hq := ?_) | refine rt' (hq := ?_))
  all_goals refine ⟨?_, hs.only0 rfl⟩
  all_goals clear hs
  all_goals try simp only [decide_eq_true_eq, decide_eq_false_iff_not] at *
  all_goals first | exact len64_end 56 72057594037927936 (by decide) (by decide) (by rfl) (by omega) (by omega) (by omega) (by omega) | exact len64_end 48 281474976710656 (by decide) (by decide) (by rfl) (by omega) (by omega) (by omega) (by omega) | exact len64_end 40 1099511627776 (by decide) (by decide) (by rfl) (by omega) (by omega) (by omega) (by omega) | exact len64_end 32 4294967296 (by decide) (by decide) (by rfl) (by omega) (by omega) (by omega) (by omega) | exact len64_end 24 16777216 (by decide) (by decide) (by rfl) (by omega) (by omega) (by omega) (by omega) | exact len64_end 16 65536 (by decide) (by decide) (by rfl) (by omega) (by omega) (by omega) (by omega) | exact len64_end 8 256 (by decide) (by decide) (by rfl) (by omega) (by omega) (by omega) (by omega) | exact len64_end 0 1 (by decide) (by decide) (by rfl) (by omega) (by omega) (by omega) (by omega)

theorem lz64_ret (x : Int) (hx0 : 0 < x) (hx1 : x < 18446744073709551616) (w0 : World) : Ret Tryd.prog 34 #[.int .u64 x] w0 fun v w' => (∃ s : Nat, v = .int .i64 (s : Nat) ∧ s ≤ 63 ∧ x * 2 ^ s < 18446744073709551616 ∧ 9223372036854775808 ≤ x * 2 ^ s) ∧ Only [] w0 w' := by
  have hs := St.nil w0
  refine ret_of_xc Tryd.func34 (by kernel_rfl) rfl Tryd.ntmps34 rfl rfl rfl ?_
  repeat' (first | refine vs (k := ?_) | refine ps (k := ?_) | (refine st hs (k := ?_); intro w hs) | (refine stA hs (k := ?_); intro w hs) | (refine al hs (k := ?_); intro b w hz hs) | (refine bx hs (k := ?_); intro b w hz hs) | (refine bs hs (k := ?_); intro b w hz hs) | refine XS.nil ?_ | refine then_of ?_ | refine xc_seq ?_ | (refine xc_region ?_ ?_; exact rfl) | refine xc_block ?_ | refine block_normal ?_ | refine xc_ret ?_ | refine then_ret ?_ | refine block_ret ?_ | refine xc_skip ?_ | refine xc_exit ?_ | refine then_exit ?_ | refine loopS_exit ?_ | refine loopS_ret ?_ | refine cutB_ret ?_ | refine cutN_ret ?_ | refine cutN_exit ?_ | refine block_exit ?_ | (refine block_other ?_ ?_; exact rfl) | (refine xc_true ?_ ?_; exact rfl) | (refine xc_false ?_ ?_; exact rfl) | ((with_reducible apply xs_guard); exact rfl; exact rfl; intro c hc; (fail_if_success (have : true = c := hc)); (fail_if_success (have : false = c := hc)); cases c) | (refine xc_if rfl (fun hc => ?_) (fun hc => ?_)) | (refine xc_cond rfl (fun hc => ?_) (fun hc => ?_)))
  (with_reducible apply xs_call); exact rfl; exact rfl; exact len64_ret x (by omega) hx1 _
  rintro v w' ⟨⟨L, rfl, hL⟩, ho⟩; replace hs := hs.call0 ho
  repeat' (first | refine vs (k := ?_) | refine ps (k := ?_) | (refine st hs (k := ?_); intro w hs) | (refine stA hs (k := ?_); intro w hs) | (refine al hs (k := ?_); intro b w hz hs) | (refine bx hs (k := ?_); intro b w hz hs) | (refine bs hs (k := ?_); intro b w hz hs) | refine XS.nil ?_ | refine then_of ?_ | refine xc_seq ?_ | (refine xc_region ?_ ?_; exact rfl) | refine xc_block ?_ | refine block_normal ?_ | refine xc_ret ?_ | refine then_ret ?_ | refine block_ret ?_ | refine xc_skip ?_ | refine xc_exit ?_ | refine then_exit ?_ | refine loopS_exit ?_ | refine loopS_ret ?_ | refine cutB_ret ?_ | refine cutN_ret ?_ | refine cutN_exit ?_ | refine block_exit ?_ | (refine block_other ?_ ?_; exact rfl) | (refine xc_true ?_ ?_; exact rfl) | (refine xc_false ?_ ?_; exact rfl) | ((with_reducible apply xs_guard); exact rfl; exact rfl; intro c hc; (fail_if_success (have : true = c := hc)); (fail_if_success (have : false = c := hc)); cases c) | (refine xc_if rfl (fun hc => ?_) (fun hc => ?_)) | (refine xc_cond rfl (fun hc => ?_) (fun hc => ?_)))
  first | refine rt (hq := ?_) | refine rt' (hq := ?_)
  refine ⟨?_, hs.only0 rfl⟩
  obtain ⟨l, rfl, h1, h2, h3⟩ := hL
  have h3 := h3 hx0
  have hl : 1 ≤ l := by
    rcases Nat.eq_zero_or_pos l with h | h
    · subst h; simp at h2; omega
    · exact h
  have hp : (2 : Int) ^ l * 2 ^ (64 - l) = 18446744073709551616 := by
    rw [← Int.pow_add, show l + (64 - l) = 64 by omega]; rfl
  refine ⟨64 - l, ?_, by omega, ?_, ?_⟩
  · simp only [packed, wrap_i64]
    congr 1
    omega
  · have := Int.mul_lt_mul_of_pos_right h2 (show (0 : Int) < 2 ^ (64 - l) from Int.pow_pos (by decide))
    omega
  · have : (2 : Int) ^ l * 2 ^ (64 - l) ≤ 2 * x * 2 ^ (64 - l) := Int.mul_le_mul_of_nonneg_right h3 (Int.le_of_lt (Int.pow_pos (by decide)))
    rw [hp, Int.mul_assoc] at this
    omega
/-! ### Div64 -/
theorem kd_cond {q r v d : Int} (e1 : IntKind.u64.wrap (4294967296 * r) = 4294967296 * r) (e2 : IntKind.u64.wrap (4294967296 * r + v) = 4294967296 * r + v) (e4 : q < 4294967296 → IntKind.u64.wrap (q * d) = q * d)
    (h1 : decide (4294967296 ≤ q) = false) (h2 : IntKind.u64.wrap (IntKind.u64.wrap (4294967296 * r) + v) < IntKind.u64.wrap (q * d)) : 4294967296 ≤ q ∨ 4294967296 * r + v < q * d := by
  have := of_decide_eq_false h1
  rw [e1, e2, e4 (by omega)] at h2
  exact .inr h2
theorem kd_ncond {q r v d : Int} (e1 : IntKind.u64.wrap (4294967296 * r) = 4294967296 * r) (e2 : IntKind.u64.wrap (4294967296 * r + v) = 4294967296 * r + v) (e4 : q < 4294967296 → IntKind.u64.wrap (q * d) = q * d)
    (h1 : decide (4294967296 ≤ q) = false) (h2 : ¬ IntKind.u64.wrap (IntKind.u64.wrap (4294967296 * r) + v) < IntKind.u64.wrap (q * d)) : q * d ≤ 4294967296 * r + v := by
  have := of_decide_eq_false h1
  rw [e1, e2, e4 (by omega)] at h2
  omega
set_option maxHeartbeats 1000000 in
theorem div64_ret (hi lo y : Int) (h0 : 0 ≤ hi) (h1 : hi < y) (h2 : y < 18446744073709551616) (h3 : 0 ≤ lo) (h4 : lo < 18446744073709551616) (w0 : World) :
    Ret Tryd.prog 22 #[.int .u64 hi, .int .u64 lo, .int .u64 y] w0 fun v w' => v = .tuple #[.int .u64 ((hi * 18446744073709551616 + lo) / y), .int .u64 ((hi * 18446744073709551616 + lo) % y)] ∧ Only [] w0 w' := by
  have hs := St.nil w0
  refine ret_of_xc Tryd.func22 (by kernel_rfl) rfl Tryd.ntmps22 rfl rfl rfl ?_
  repeat' (first | refine vs (k := ?_) | refine ps (k := ?_) | (refine st hs (k := ?_); intro w hs) | (refine stA hs (k := ?_); intro w hs) | (refine al hs (k := ?_); intro b w hz hs) | (refine bx hs (k := ?_); intro b w hz hs) | (refine bs hs (k := ?_); intro b w hz hs) | refine XS.nil ?_ | refine then_of ?_ | refine xc_seq ?_ | (refine xc_region ?_ ?_; exact rfl) | refine xc_block ?_ | refine block_normal ?_ | refine xc_ret ?_ | refine then_ret ?_ | refine block_ret ?_ | refine xc_skip ?_ | refine xc_exit ?_ | refine then_exit ?_ | refine loopS_exit ?_ | refine loopS_ret ?_ | refine cutB_ret ?_ | refine cutN_ret ?_ | refine cutN_exit ?_ | refine block_exit ?_ | (refine block_other ?_ ?_; exact rfl) | (refine xc_true ?_ ?_; exact rfl) | (refine xc_false ?_ ?_; exact rfl) | ((with_reducible apply xs_guard); exact rfl; exact rfl; intro c hc; (fail_if_success (have : true = c := hc)); (fail_if_success (have : false = c := hc)); cases c) | (refine xc_if rfl (fun hc => ?_) (fun hc => ?_)) | (refine xc_cond rfl (fun hc => ?_) (fun hc => ?_)))
  · omega
  · omega
  · refine dr [] hs (k := ?_); intro hX w hs
    refine tk 0 hX (k := ?_)
    refine tk 1 hX (k := ?_)
    refine tk 2 hX (k := ?_)
    refine tk 3 hX (k := ?_)
    refine tk 4 hX (k := ?_)
    refine tk 5 hX (k := ?_)
    refine tk 6 hX (k := ?_)
    refine tk 7 hX (k := ?_)
    refine en (k := ?_)
    repeat' (first | refine vs (k := ?_) | refine ps (k := ?_) | (refine st hs (k := ?_); intro w hs) | (refine stA hs (k := ?_); intro w hs) | (refine al hs (k := ?_); intro b w hz hs) | (refine bx hs (k := ?_); intro b w hz hs) | (refine bs hs (k := ?_); intro b w hz hs) | refine XS.nil ?_ | refine then_of ?_ | refine xc_seq ?_ | (refine xc_region ?_ ?_; exact rfl) | refine xc_block ?_ | refine block_normal ?_ | refine xc_ret ?_ | refine then_ret ?_ | refine block_ret ?_ | refine xc_skip ?_ | refine xc_exit ?_ | refine then_exit ?_ | refine loopS_exit ?_ | refine loopS_ret ?_ | refine cutB_ret ?_ | refine cutN_ret ?_ | refine cutN_exit ?_ | refine block_exit ?_ | (refine block_other ?_ ?_; exact rfl) | (refine xc_true ?_ ?_; exact rfl) | (refine xc_false ?_ ?_; exact rfl) | ((with_reducible apply xs_guard); exact rfl; exact rfl; intro c hc; (fail_if_success (have : true = c := hc)); (fail_if_success (have : false = c := hc)); cases c) | (refine xc_if rfl (fun hc => ?_) (fun hc => ?_)) | (refine xc_cond rfl (fun hc => ?_) (fun hc => ?_)))
    first | refine rt (hq := ?_) | refine rt' (hq := ?_)
    refine ⟨?_, hs.only0 rfl⟩
    have : hi = 0 := by omega
    subst this
    refine pairU_ok ?_ ?_ <;> simp
  (with_reducible apply xs_call); exact rfl; exact rfl; exact lz64_ret y (by omega) h2 _
  rintro v w' ⟨⟨sh, rfl, hs1, hs2, hs3⟩, ho⟩; replace hs := hs.call0 ho
  repeat' (first | refine vs (k := ?_) | refine ps (k := ?_) | (refine st hs (k := ?_); intro w hs) | (refine stA hs (k := ?_); intro w hs) | (refine al hs (k := ?_); intro b w hz hs) | (refine bx hs (k := ?_); intro b w hz hs) | (refine bs hs (k := ?_); intro b w hz hs) | refine XS.nil ?_ | refine then_of ?_ | refine xc_seq ?_ | (refine xc_region ?_ ?_; exact rfl) | refine xc_block ?_ | refine block_normal ?_ | refine xc_ret ?_ | refine then_ret ?_ | refine block_ret ?_ | refine xc_skip ?_ | refine xc_exit ?_ | refine then_exit ?_ | refine loopS_exit ?_ | refine loopS_ret ?_ | refine cutB_ret ?_ | refine cutN_ret ?_ | refine cutN_exit ?_ | refine block_exit ?_ | (refine block_other ?_ ?_; exact rfl) | (refine xc_true ?_ ?_; exact rfl) | (refine xc_false ?_ ?_; exact rfl) | ((with_reducible apply xs_guard); exact rfl; exact rfl; intro c hc; (fail_if_success (have : true = c := hc)); (fail_if_success (have : false = c := hc)); cases c) | (refine xc_if rfl (fun hc => ?_) (fun hc => ?_)) | (refine xc_cond rfl (fun hc => ?_) (fun hc => ?_)))
  rw [wrap_small (show (0 : Int) ≤ (sh : Nat) by omega) (by omega)]
  have hP : (0 : Int) < 2 ^ sh := Int.pow_pos (by decide)
  have hQ : (0 : Int) < 2 ^ (64 - sh) := Int.pow_pos (by decide)
  have hPQ : (2 : Int) ^ sh * 2 ^ (64 - sh) = 18446744073709551616 := by rw [← Int.pow_add, show sh + (64 - sh) = 64 by omega]; rfl
  obtain ⟨g1, g2, g3, g4⟩ := kd_open hP hQ hPQ h0 h1 h3 h4
  have hhi : 0 ≤ hi * 2 ^ sh := Int.mul_nonneg h0 (by omega)
  have hA : hi * 2 ^ sh < 18446744073709551616 := by omega
  (with_reducible apply xs_valE); exact rfl; (with_reducible apply r_shlS sh); exact rfl; exact rfl; exact rfl; exact (by show sh ≤ 64; omega); exact congrArg (Value.int .u64) (wrap_small (by omega) (by omega))
  generalize hY : y * 2 ^ sh = Y at *
  repeat' (first | refine vs (k := ?_) | refine ps (k := ?_) | (refine st hs (k := ?_); intro w hs) | (refine stA hs (k := ?_); intro w hs) | (refine al hs (k := ?_); intro b w hz hs) | (refine bx hs (k := ?_); intro b w hz hs) | (refine bs hs (k := ?_); intro b w hz hs) | refine XS.nil ?_ | refine then_of ?_ | refine xc_seq ?_ | (refine xc_region ?_ ?_; exact rfl) | refine xc_block ?_ | refine block_normal ?_ | refine xc_ret ?_ | refine then_ret ?_ | refine block_ret ?_ | refine xc_skip ?_ | refine xc_exit ?_ | refine then_exit ?_ | refine loopS_exit ?_ | refine loopS_ret ?_ | refine cutB_ret ?_ | refine cutN_ret ?_ | refine cutN_exit ?_ | refine block_exit ?_ | (refine block_other ?_ ?_; exact rfl) | (refine xc_true ?_ ?_; exact rfl) | (refine xc_false ?_ ?_; exact rfl) | ((with_reducible apply xs_guard); exact rfl; exact rfl; intro c hc; (fail_if_success (have : true = c := hc)); (fail_if_success (have : false = c := hc)); cases c) | (refine xc_if rfl (fun hc => ?_) (fun hc => ?_)) | (refine xc_cond rfl (fun hc => ?_) (fun hc => ?_)))
  (with_reducible apply xs_valE); exact rfl; (with_reducible apply r_shlS sh); exact rfl; exact rfl; exact rfl; exact (by show sh ≤ 64; omega); exact congrArg (Value.int .u64) (wrap_small hhi hA)
  repeat' (first | refine vs (k := ?_) | refine ps (k := ?_) | (refine st hs (k := ?_); intro w hs) | (refine stA hs (k := ?_); intro w hs) | (refine al hs (k := ?_); intro b w hz hs) | (refine bx hs (k := ?_); intro b w hz hs) | (refine bs hs (k := ?_); intro b w hz hs) | refine XS.nil ?_ | refine then_of ?_ | refine xc_seq ?_ | (refine xc_region ?_ ?_; exact rfl) | refine xc_block ?_ | refine block_normal ?_ | refine xc_ret ?_ | refine then_ret ?_ | refine block_ret ?_ | refine xc_skip ?_ | refine xc_exit ?_ | refine then_exit ?_ | refine loopS_exit ?_ | refine loopS_ret ?_ | refine cutB_ret ?_ | refine cutN_ret ?_ | refine cutN_exit ?_ | refine block_exit ?_ | (refine block_other ?_ ?_; exact rfl) | (refine xc_true ?_ ?_; exact rfl) | (refine xc_false ?_ ?_; exact rfl) | ((with_reducible apply xs_guard); exact rfl; exact rfl; intro c hc; (fail_if_success (have : true = c := hc)); (fail_if_success (have : false = c := hc)); cases c) | (refine xc_if rfl (fun hc => ?_) (fun hc => ?_)) | (refine xc_cond rfl (fun hc => ?_) (fun hc => ?_)))
  (with_reducible apply xs_val); exact rfl; (with_reducible apply r_shrS (64 - sh)); exact rfl; exact rfl; exact (by rw [wrap_small (by omega) (by omega)]; omega); exact (by show 64 - sh ≤ 64; omega)
  (with_reducible apply xs_val); exact rfl; (with_reducible apply r_orS sh hi); exact rfl; exact rfl; exact rfl; exact h0; exact g1; exact g2; omega
  repeat' (first | refine vs (k := ?_) | refine ps (k := ?_) | (refine st hs (k := ?_); intro w hs) | (refine stA hs (k := ?_); intro w hs) | (refine al hs (k := ?_); intro b w hz hs) | (refine bx hs (k := ?_); intro b w hz hs) | (refine bs hs (k := ?_); intro b w hz hs) | refine XS.nil ?_ | refine then_of ?_ | refine xc_seq ?_ | (refine xc_region ?_ ?_; exact rfl) | refine xc_block ?_ | refine block_normal ?_ | refine xc_ret ?_ | refine then_ret ?_ | refine block_ret ?_ | refine xc_skip ?_ | refine xc_exit ?_ | refine then_exit ?_ | refine loopS_exit ?_ | refine loopS_ret ?_ | refine cutB_ret ?_ | refine cutN_ret ?_ | refine cutN_exit ?_ | refine block_exit ?_ | (refine block_other ?_ ?_; exact rfl) | (refine xc_true ?_ ?_; exact rfl) | (refine xc_false ?_ ?_; exact rfl) | ((with_reducible apply xs_guard); exact rfl; exact rfl; intro c hc; (fail_if_success (have : true = c := hc)); (fail_if_success (have : false = c := hc)); cases c) | (refine xc_if rfl (fun hc => ?_) (fun hc => ?_)) | (refine xc_cond rfl (fun hc => ?_) (fun hc => ?_)))
  (with_reducible apply xs_valE); exact rfl; (with_reducible apply r_shlS sh); exact rfl; exact rfl; exact rfl; exact (by show sh ≤ 64; omega); exact congrArg (Value.int .u64) (wrap_u64 _)
  have hL : 0 ≤ lo * 2 ^ sh % 18446744073709551616 ∧ lo * 2 ^ sh % 18446744073709551616 < 18446744073709551616 := by omega
  have hu0 : 0 ≤ hi * 2 ^ sh + lo / 2 ^ (64 - sh) := by omega
  generalize hi * 2 ^ sh + lo / 2 ^ (64 - sh) = u at *
  generalize lo * 2 ^ sh % 18446744073709551616 = L at *
  repeat' (first | refine vs (k := ?_) | refine ps (k := ?_) | (refine st hs (k := ?_); intro w hs) | (refine stA hs (k := ?_); intro w hs) | (refine al hs (k := ?_); intro b w hz hs) | (refine bx hs (k := ?_); intro b w hz hs) | (refine bs hs (k := ?_); intro b w hz hs) | refine XS.nil ?_ | refine then_of ?_ | refine xc_seq ?_ | (refine xc_region ?_ ?_; exact rfl) | refine xc_block ?_ | refine block_normal ?_ | refine xc_ret ?_ | refine then_ret ?_ | refine block_ret ?_ | refine xc_skip ?_ | refine xc_exit ?_ | refine then_exit ?_ | refine loopS_exit ?_ | refine loopS_ret ?_ | refine cutB_ret ?_ | refine cutN_ret ?_ | refine cutN_exit ?_ | refine block_exit ?_ | (refine block_other ?_ ?_; exact rfl) | (refine xc_true ?_ ?_; exact rfl) | (refine xc_false ?_ ?_; exact rfl) | ((with_reducible apply xs_guard); exact rfl; exact rfl; intro c hc; (fail_if_success (have : true = c := hc)); (fail_if_success (have : false = c := hc)); cases c) | (refine xc_if rfl (fun hc => ?_) (fun hc => ?_)) | (refine xc_cond rfl (fun hc => ?_) (fun hc => ?_)))
  have hK : KdOk u (L / 4294967296) (Y / 4294967296) (Y % 4294967296) Y := ⟨by omega, by omega, by omega, by omega, by omega, hu0, g3, by omega, by omega⟩
  have kk := kd_init hK
  have e1 : IntKind.u64.wrap (u / (Y / 4294967296) * (Y / 4294967296)) = u / (Y / 4294967296) * (Y / 4294967296) := by
    have := Int.mul_nonneg kk.q0 (show 0 ≤ Y / 4294967296 by omega)
    have := kk.sum; have := kk.r0
    exact wrap_small (by omega) (by omega)
  have e2 : IntKind.u64.wrap (u - u / (Y / 4294967296) * (Y / 4294967296)) = u - u / (Y / 4294967296) * (Y / 4294967296) := wrap_small kk.r0 (by have := kk.r1; omega)
  rw [e1, e2]
  clear e1 e2 kk
  generalize hc' : Y / 4294967296 = c at *
  generalize hd' : Y % 4294967296 = d at *
  generalize hv1 : L / 4294967296 = v1 at *
  generalize hv0 : L % 4294967296 = v0 at *
  refine xc_cutB (fun (z : Int) => [(2, .int .u64 Y), (8, .int .u64 ((sh : Nat) : Int)), (9, .int .u64 c), (10, .int .u64 d), (11, .int .u64 u), (13, .int .u64 v1), (14, .int .u64 v0), (15, .int .u64 z)]) (fun z w => KdFin u v1 Y z ∧ St w0 D0 [] w) ?_ ?_
  · refine xc_loopS (fun (s : Int × Int) => [(2, .int .u64 Y), (8, .int .u64 ((sh : Nat) : Int)), (9, .int .u64 c), (10, .int .u64 d), (11, .int .u64 u), (13, .int .u64 v1), (14, .int .u64 v0), (15, .int .u64 s.1), (16, .int .u64 s.2)]) (fun s w => Kd u v1 c d Y s.1 s.2 ∧ St w0 D0 [] w) (fun s => s.1.toNat) (u / c, u - u / c * c) (by (repeat (first | exact agree_nil | (apply agree_cons; exact rfl)))) ⟨kd_init hK, hs⟩ fun s env w hI => ?_
    obtain ⟨hk, hs⟩ := hI
    generalize hsq : s.1 = q at *
    generalize hsr : s.2 = r at *
    have hk' := hk
    obtain ⟨k1, k2, k3, k4, k5, k6⟩ := hk'
    have e1 : IntKind.u64.wrap (4294967296 * r) = 4294967296 * r := wrap_small (by omega) (by omega)
    have e2 : IntKind.u64.wrap (4294967296 * r + v1) = 4294967296 * r + v1 := wrap_small (by omega) (by omega)
    have e3 : IntKind.u64.wrap (r + c) = r + c := wrap_small (by omega) (by omega)
    have e4 : q < 4294967296 → IntKind.u64.wrap (q * d) = q * d := fun hq => by
      have := mul_bound (a := q) (b := d) (m := 4294967295) k2 (by omega) hK.d0 (by have := hK.d1; omega)
      exact wrap_small (by omega) (by omega)
    repeat' (first | refine vs (k := ?_) | refine ps (k := ?_) | (refine st hs (k := ?_); intro w hs) | (refine stA hs (k := ?_); intro w hs) | (refine al hs (k := ?_); intro b w hz hs) | (refine bx hs (k := ?_); intro b w hz hs) | (refine bs hs (k := ?_); intro b w hz hs) | refine XS.nil ?_ | refine then_of ?_ | refine xc_seq ?_ | (refine xc_region ?_ ?_; exact rfl) | refine xc_block ?_ | refine block_normal ?_ | refine xc_ret ?_ | refine then_ret ?_ | refine block_ret ?_ | refine xc_skip ?_ | refine xc_exit ?_ | refine then_exit ?_ | refine loopS_exit ?_ | refine loopS_ret ?_ | refine cutB_ret ?_ | refine cutN_ret ?_ | refine cutN_exit ?_ | refine block_exit ?_ | (refine block_other ?_ ?_; exact rfl) | (refine xc_true ?_ ?_; exact rfl) | (refine xc_false ?_ ?_; exact rfl) | ((with_reducible apply xs_guard); exact rfl; exact rfl; intro c hc; (fail_if_success (have : true = c := hc)); (fail_if_success (have : false = c := hc)); cases c) | (refine xc_if rfl (fun hc => ?_) (fun hc => ?_)) | (refine xc_cond rfl (fun hc => ?_) (fun hc => ?_)))
    all_goals first
      | exact cutB_exit q (by (repeat (first | exact agree_nil | (apply agree_cons; exact rfl)))) ⟨kd_stop hK hk (kd_ncond e1 e2 e4 (by assumption) (by assumption)), hs⟩
      | skip
    all_goals have hst : 4294967296 ≤ q ∨ 4294967296 * r + v1 < q * d := by first | exact .inl (of_decide_eq_true (by assumption)) | exact kd_cond e1 e2 e4 (by assumption) (by assumption)
    all_goals obtain ⟨h1, h2, h3⟩ := kd_step hK hk hst
    all_goals have e5 : IntKind.u64.wrap (q - 1) = q - 1 := wrap_small (by omega) (by omega)
    all_goals simp only [e3] at hc
    all_goals first
      | exact cutB_exit (q - 1) (by (repeat (first | exact agree_nil | (apply agree_cons; first | exact rfl | exact congrArg (Value.int .u64) e5 | exact congrArg (Value.int .u64) e3)))) ⟨h3 (by omega), hs⟩
      | exact loopS_next (q - 1, r + c) (by simp only [hsq]; omega) (by (repeat (first | exact agree_nil | (apply agree_cons; first | exact rfl | exact congrArg (Value.int .u64) e5 | exact congrArg (Value.int .u64) e3)))) ⟨h2 (by omega), hs⟩
  rintro q env w ⟨hfq, hs⟩
  obtain ⟨f1, f2, f3, f4, f5⟩ := kd_fin hK hfq
  repeat' (first | refine vs (k := ?_) | refine ps (k := ?_) | (refine st hs (k := ?_); intro w hs) | (refine stA hs (k := ?_); intro w hs) | (refine al hs (k := ?_); intro b w hz hs) | (refine bx hs (k := ?_); intro b w hz hs) | (refine bs hs (k := ?_); intro b w hz hs) | refine XS.nil ?_ | refine then_of ?_ | refine xc_seq ?_ | (refine xc_region ?_ ?_; exact rfl) | refine xc_block ?_ | refine block_normal ?_ | refine xc_ret ?_ | refine then_ret ?_ | refine block_ret ?_ | refine xc_skip ?_ | refine xc_exit ?_ | refine then_exit ?_ | refine loopS_exit ?_ | refine loopS_ret ?_ | refine cutB_ret ?_ | refine cutN_ret ?_ | refine cutN_exit ?_ | refine block_exit ?_ | (refine block_other ?_ ?_; exact rfl) | (refine xc_true ?_ ?_; exact rfl) | (refine xc_false ?_ ?_; exact rfl) | ((with_reducible apply xs_guard); exact rfl; exact rfl; intro c hc; (fail_if_success (have : true = c := hc)); (fail_if_success (have : false = c := hc)); cases c) | (refine xc_if rfl (fun hc => ?_) (fun hc => ?_)) | (refine xc_cond rfl (fun hc => ?_) (fun hc => ?_)))
  have hq0 := hfq.1
  have E1 : IntKind.u64.wrap (IntKind.u64.wrap (IntKind.u64.wrap (u * 4294967296) + v1) - IntKind.u64.wrap (q * Y)) = u * 4294967296 + v1 - q * Y := by
    clear f1 f3
    simp only [wrap_u64]
    generalize q * Y = z at *
    omega
  rw [E1]
  clear E1
  generalize hu2 : u * 4294967296 + v1 - q * Y = u2 at *
  have hd := hK.d0; have hdd := hK.d1; have hcc := hK.c0; have hcd := hK.c1; have hyy := hK.y_eq
  have hK2 : KdOk u2 v0 c d Y := ⟨hyy, hcc, hcd, hd, hdd, f4, f5, by omega, by omega⟩
  have kk := kd_init hK2
  have e1 : IntKind.u64.wrap (u2 / c * c) = u2 / c * c := by
    have := Int.mul_nonneg kk.q0 (show 0 ≤ c by omega)
    have := kk.sum; have := kk.r0
    exact wrap_small (by omega) (by omega)
  have e2 : IntKind.u64.wrap (u2 - u2 / c * c) = u2 - u2 / c * c := wrap_small kk.r0 (by have := kk.r1; omega)
  rw [e1, e2]
  clear e1 e2 kk
  refine xc_cutB (fun (z : Int) => [(2, .int .u64 Y), (8, .int .u64 ((sh : Nat) : Int)), (9, .int .u64 c), (10, .int .u64 d), (14, .int .u64 v0), (15, .int .u64 q), (17, .int .u64 u2), (18, .int .u64 z)]) (fun z w => KdFin u2 v0 Y z ∧ St w0 D0 [] w) ?_ ?_
  · refine xc_loopS (fun (s : Int × Int) => [(2, .int .u64 Y), (8, .int .u64 ((sh : Nat) : Int)), (9, .int .u64 c), (10, .int .u64 d), (14, .int .u64 v0), (15, .int .u64 q), (17, .int .u64 u2), (18, .int .u64 s.1), (16, .int .u64 s.2)]) (fun s w => Kd u2 v0 c d Y s.1 s.2 ∧ St w0 D0 [] w) (fun s => s.1.toNat) (u2 / c, u2 - u2 / c * c) (by (repeat (first | exact agree_nil | (apply agree_cons; exact rfl)))) ⟨kd_init hK2, hs⟩ fun s env w hI => ?_
    obtain ⟨hk, hs⟩ := hI
    generalize hsq : s.1 = q at *
    generalize hsr : s.2 = r at *
    have hk' := hk
    obtain ⟨k1, k2, k3, k4, k5, k6⟩ := hk'
    have e1 : IntKind.u64.wrap (4294967296 * r) = 4294967296 * r := wrap_small (by omega) (by omega)
    have e2 : IntKind.u64.wrap (4294967296 * r + v0) = 4294967296 * r + v0 := wrap_small (by omega) (by omega)
    have e3 : IntKind.u64.wrap (r + c) = r + c := wrap_small (by omega) (by omega)
    have e4 : q < 4294967296 → IntKind.u64.wrap (q * d) = q * d := fun hq => by
      have := mul_bound (a := q) (b := d) (m := 4294967295) k2 (by omega) hK2.d0 (by have := hK2.d1; omega)
      exact wrap_small (by omega) (by omega)
    repeat' (first | refine vs (k := ?_) | refine ps (k := ?_) | (refine st hs (k := ?_); intro w hs) | (refine stA hs (k := ?_); intro w hs) | (refine al hs (k := ?_); intro b w hz hs) | (refine bx hs (k := ?_); intro b w hz hs) | (refine bs hs (k := ?_); intro b w hz hs) | refine XS.nil ?_ | refine then_of ?_ | refine xc_seq ?_ | (refine xc_region ?_ ?_; exact rfl) | refine xc_block ?_ | refine block_normal ?_ | refine xc_ret ?_ | refine then_ret ?_ | refine block_ret ?_ | refine xc_skip ?_ | refine xc_exit ?_ | refine then_exit ?_ | refine loopS_exit ?_ | refine loopS_ret ?_ | refine cutB_ret ?_ | refine cutN_ret ?_ | refine cutN_exit ?_ | refine block_exit ?_ | (refine block_other ?_ ?_; exact rfl) | (refine xc_true ?_ ?_; exact rfl) | (refine xc_false ?_ ?_; exact rfl) | ((with_reducible apply xs_guard); exact rfl; exact rfl; intro c hc; (fail_if_success (have : true = c := hc)); (fail_if_success (have : false = c := hc)); cases c) | (refine xc_if rfl (fun hc => ?_) (fun hc => ?_)) | (refine xc_cond rfl (fun hc => ?_) (fun hc => ?_)))
    all_goals first
      | exact cutB_exit q (by (repeat (first | exact agree_nil | (apply agree_cons; exact rfl)))) ⟨kd_stop hK2 hk (kd_ncond e1 e2 e4 (by assumption) (by assumption)), hs⟩
      | skip
    all_goals have hst : 4294967296 ≤ q ∨ 4294967296 * r + v0 < q * d := by first | exact .inl (of_decide_eq_true (by assumption)) | exact kd_cond e1 e2 e4 (by assumption) (by assumption)
    all_goals obtain ⟨h1, h2, h3⟩ := kd_step hK2 hk hst
    all_goals have e5 : IntKind.u64.wrap (q - 1) = q - 1 := wrap_small (by omega) (by omega)
    all_goals simp only [e3] at hc
    all_goals first
      | exact cutB_exit (q - 1) (by (repeat (first | exact agree_nil | (apply agree_cons; first | exact rfl | exact congrArg (Value.int .u64) e5 | exact congrArg (Value.int .u64) e3)))) ⟨h3 (by omega), hs⟩
      | exact loopS_next (q - 1, r + c) (by simp only [hsq]; omega) (by (repeat (first | exact agree_nil | (apply agree_cons; first | exact rfl | exact congrArg (Value.int .u64) e5 | exact congrArg (Value.int .u64) e3)))) ⟨h2 (by omega), hs⟩
  rintro p env w ⟨hfp, hs⟩
  obtain ⟨i1, i2, i3, i4, i5⟩ := kd_fin hK2 hfp
  repeat' (first | refine vs (k := ?_) | refine ps (k := ?_) | (refine st hs (k := ?_); intro w hs) | (refine stA hs (k := ?_); intro w hs) | (refine al hs (k := ?_); intro b w hz hs) | (refine bx hs (k := ?_); intro b w hz hs) | (refine bs hs (k := ?_); intro b w hz hs) | refine XS.nil ?_ | refine then_of ?_ | refine xc_seq ?_ | (refine xc_region ?_ ?_; exact rfl) | refine xc_block ?_ | refine block_normal ?_ | refine xc_ret ?_ | refine then_ret ?_ | refine block_ret ?_ | refine xc_skip ?_ | refine xc_exit ?_ | refine then_exit ?_ | refine loopS_exit ?_ | refine loopS_ret ?_ | refine cutB_ret ?_ | refine cutN_ret ?_ | refine cutN_exit ?_ | refine block_exit ?_ | (refine block_other ?_ ?_; exact rfl) | (refine xc_true ?_ ?_; exact rfl) | (refine xc_false ?_ ?_; exact rfl) | ((with_reducible apply xs_guard); exact rfl; exact rfl; intro c hc; (fail_if_success (have : true = c := hc)); (fail_if_success (have : false = c := hc)); cases c) | (refine xc_if rfl (fun hc => ?_) (fun hc => ?_)) | (refine xc_cond rfl (fun hc => ?_) (fun hc => ?_)))
  (with_reducible apply xs_val); exact rfl; (with_reducible apply r_shrS sh); exact rfl; exact rfl; exact rfl; exact (by show sh ≤ 64; omega)
  repeat' (first | refine vs (k := ?_) | refine ps (k := ?_) | (refine st hs (k := ?_); intro w hs) | (refine stA hs (k := ?_); intro w hs) | (refine al hs (k := ?_); intro b w hz hs) | (refine bx hs (k := ?_); intro b w hz hs) | (refine bs hs (k := ?_); intro b w hz hs) | refine XS.nil ?_ | refine then_of ?_ | refine xc_seq ?_ | (refine xc_region ?_ ?_; exact rfl) | refine xc_block ?_ | refine block_normal ?_ | refine xc_ret ?_ | refine then_ret ?_ | refine block_ret ?_ | refine xc_skip ?_ | refine xc_exit ?_ | refine then_exit ?_ | refine loopS_exit ?_ | refine loopS_ret ?_ | refine cutB_ret ?_ | refine cutN_ret ?_ | refine cutN_exit ?_ | refine block_exit ?_ | (refine block_other ?_ ?_; exact rfl) | (refine xc_true ?_ ?_; exact rfl) | (refine xc_false ?_ ?_; exact rfl) | ((with_reducible apply xs_guard); exact rfl; exact rfl; intro c hc; (fail_if_success (have : true = c := hc)); (fail_if_success (have : false = c := hc)); cases c) | (refine xc_if rfl (fun hc => ?_) (fun hc => ?_)) | (refine xc_cond rfl (fun hc => ?_) (fun hc => ?_)))
  first | refine rt (hq := ?_) | refine rt' (hq := ?_)
  refine ⟨?_, hs.only0 rfl⟩
  clear hs
  have hp0 := hfp.1
  have E1 : IntKind.u64.wrap (IntKind.u64.wrap (IntKind.u64.wrap (u2 * 4294967296) + v0) - IntKind.u64.wrap (p * Y)) = u2 * 4294967296 + v0 - p * Y := by
    clear i1 i3 f1 f3 hu2
    simp only [wrap_u64]
    generalize p * Y = z at *
    omega
  rw [E1]
  have E2 : IntKind.u64.wrap (IntKind.u64.wrap (q * 4294967296) + p) = q * 4294967296 + p := by
    rw [wrap_small (n := q * 4294967296) (by omega) (by omega)]
    exact wrap_small (by omega) (by omega)
  rw [E2]
  obtain ⟨j1, j2⟩ := kd_end (T := hi * 18446744073709551616 + lo) (Q := q * 4294967296 + p) hP (show 0 < y by omega) hY (by
    have : (q * 4294967296 + p) * Y = q * Y * 4294967296 + p * Y := by grind
    rw [g4, this]
    omega) i4 i5
  rw [j2]
  exact pairU_ok j1 rfl
end Go.Proofs.YtkkelelmdbemmaaDoorX
