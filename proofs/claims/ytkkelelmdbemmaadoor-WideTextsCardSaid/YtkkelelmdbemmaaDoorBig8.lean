/- Layer 1, ref01, eighth part: N, Power. -/
import Derived.Test.YtkkelelmdbemmaaDoorBig7
set_option linter.unusedVariables false
set_option linter.unusedSimpArgs false
set_option maxRecDepth 100000
namespace Go.Proofs.YtkkelelmdbemmaaDoorX
open Go Go.RowKit
attribute [local irreducible] XS XC XA thenE blockE retE loopE loopS cutB cutN doneE SE

theorem BigAt.turned {w : World} {n : Bool} {sl : Value} {y : Int} (h : BigAt w (.agg #[.bool n, sl]) y) (hy : 0 < y) : BigAt w (.agg #[.bool true, sl]) (-y) := by
  obtain ⟨neg, sl', ds, e, hD, hok, ht, hz, rfl⟩ := h
  simp only [Value.agg.injEq, Array.mk.injEq, List.cons.injEq, Value.bool.injEq, and_true] at e
  obtain ⟨rfl, rfl⟩ := e
  have h0 := valD_nonneg hok
  cases n
  · refine ⟨true, sl, ds, rfl, hD, hok, ht, fun e => ?_, rfl⟩
    subst e; simp [sg, valD] at hy
  · simp only [sg, cond_true] at hy; omega
theorem St.unread {wb w : World} {d : List Nat} {R r : List (Nat × Obj)} {H : List Ent} (h : St wb ⟨d, R ++ r⟩ H w) : St wb ⟨d, r⟩ H w :=
  ⟨h.at_, h.nd, h.new, h.os, h.tape, h.output, h.size, h.frame, fun e he => h.ro e (List.mem_append_right _ he), fun e he => h.ap e (List.mem_append_right _ he)⟩
theorem bigN_ret (x : Int) (w0 : World) (h0 : -9223372036854775808 ≤ x) (h1 : x < 9223372036854775808) : Ret Tryd.prog 9 #[.int .i64 x] w0 fun v w' => BigAt w' v x ∧ Only [] w0 w' := by
  have hs := St.nil w0
  refine ret_of_xc Tryd.func9 (by kernel_rfl) rfl Tryd.ntmps9 rfl rfl rfl ?_
  repeat' (first | refine vs (k := ?_) | refine ps (k := ?_) | (refine st hs (k := ?_); intro w hs) | (refine stA hs (k := ?_); intro w hs) | (refine al hs (k := ?_); intro b w hz hs) | (refine bx hs (k := ?_); intro b w hz hs) | (refine bs hs (k := ?_); intro b w hz hs) | refine XS.nil ?_ | refine then_of ?_ | refine xc_seq ?_ | (refine xc_region ?_ ?_; exact rfl) | refine xc_block ?_ | refine block_normal ?_ | refine xc_ret ?_ | refine then_ret ?_ | refine block_ret ?_ | refine xc_skip ?_ | refine xc_exit ?_ | refine then_exit ?_ | refine loopS_exit ?_ | refine loopS_ret ?_ | refine cutB_ret ?_ | refine cutN_ret ?_ | refine cutN_exit ?_ | refine block_exit ?_ | (refine block_other ?_ ?_; exact rfl) | (refine xc_true ?_ ?_; exact rfl) | (refine xc_false ?_ ?_; exact rfl) | ((with_reducible apply xs_guard); exact rfl; exact rfl; intro c hc; (fail_if_success (have : true = c := hc)); (fail_if_success (have : false = c := hc)); cases c) | (refine xc_if rfl (fun hc => ?_) (fun hc => ?_)) | (refine xc_cond rfl (fun hc => ?_) (fun hc => ?_)))
  · rw [show IntKind.u64.wrap x = x from wrap_small (by omega) (by omega)]
    (with_reducible apply xs_call); exact rfl; exact rfl; exact bigU_ret x _ (by omega) (by omega)
    rintro v w' ⟨hB, ho⟩; replace hs := hs.call0 ho
    obtain ⟨n1, a1, l1, c1, rfl⟩ := hB.shape
    obtain ⟨R, hs, hB⟩ := hB.read hs rfl
    repeat' (first | refine vs (k := ?_) | refine ps (k := ?_) | (refine st hs (k := ?_); intro w hs) | (refine stA hs (k := ?_); intro w hs) | (refine al hs (k := ?_); intro b w hz hs) | (refine bx hs (k := ?_); intro b w hz hs) | (refine bs hs (k := ?_); intro b w hz hs) | refine XS.nil ?_ | refine then_of ?_ | refine xc_seq ?_ | (refine xc_region ?_ ?_; exact rfl) | refine xc_block ?_ | refine block_normal ?_ | refine xc_ret ?_ | refine then_ret ?_ | refine block_ret ?_ | refine xc_skip ?_ | refine xc_exit ?_ | refine then_exit ?_ | refine loopS_exit ?_ | refine loopS_ret ?_ | refine cutB_ret ?_ | refine cutN_ret ?_ | refine cutN_exit ?_ | refine block_exit ?_ | (refine block_other ?_ ?_; exact rfl) | (refine xc_true ?_ ?_; exact rfl) | (refine xc_false ?_ ?_; exact rfl) | ((with_reducible apply xs_guard); exact rfl; exact rfl; intro c hc; (fail_if_success (have : true = c := hc)); (fail_if_success (have : false = c := hc)); cases c) | (refine xc_if rfl (fun hc => ?_) (fun hc => ?_)) | (refine xc_cond rfl (fun hc => ?_) (fun hc => ?_)))
    first | refine rt (hq := ?_) | refine rt' (hq := ?_)
    exact ⟨hB _ (fun e he => hs.ro e (List.mem_append_left _ he)), hs.only0 rfl⟩
  · have e1 : IntKind.u64.wrap (IntKind.u64.wrap (IntKind.i64.wrap (0 - IntKind.i64.wrap (x + 1))) + 1) = -x := by simp only [wrap_u64, wrap_i64]; omega
    rw [e1]
    (with_reducible apply xs_call); exact rfl; exact rfl; exact bigU_ret (-x) _ (by omega) (by omega)
    rintro v w' ⟨hB, ho⟩; replace hs := hs.call0 ho
    obtain ⟨n1, a1, l1, c1, rfl⟩ := hB.shape
    obtain ⟨R, hs, hB⟩ := hB.read hs rfl
    repeat' (first | refine vs (k := ?_) | refine ps (k := ?_) | (refine st hs (k := ?_); intro w hs) | (refine stA hs (k := ?_); intro w hs) | (refine al hs (k := ?_); intro b w hz hs) | (refine bx hs (k := ?_); intro b w hz hs) | (refine bs hs (k := ?_); intro b w hz hs) | refine XS.nil ?_ | refine then_of ?_ | refine xc_seq ?_ | (refine xc_region ?_ ?_; exact rfl) | refine xc_block ?_ | refine block_normal ?_ | refine xc_ret ?_ | refine then_ret ?_ | refine block_ret ?_ | refine xc_skip ?_ | refine xc_exit ?_ | refine then_exit ?_ | refine loopS_exit ?_ | refine loopS_ret ?_ | refine cutB_ret ?_ | refine cutN_ret ?_ | refine cutN_exit ?_ | refine block_exit ?_ | (refine block_other ?_ ?_; exact rfl) | (refine xc_true ?_ ?_; exact rfl) | (refine xc_false ?_ ?_; exact rfl) | ((with_reducible apply xs_guard); exact rfl; exact rfl; intro c hc; (fail_if_success (have : true = c := hc)); (fail_if_success (have : false = c := hc)); cases c) | (refine xc_if rfl (fun hc => ?_) (fun hc => ?_)) | (refine xc_cond rfl (fun hc => ?_) (fun hc => ?_)))
    first | refine rt (hq := ?_) | refine rt' (hq := ?_)
    refine ⟨?_, hs.only0 rfl⟩
    have h := (hB _ (fun e he => hs.ro e (List.mem_append_left _ he))).turned (by omega)
    rw [Int.neg_neg] at h
    exact h
theorem pow2_in {k : Nat} (h : k ≤ 128) : InB ((2 : Int) ^ k) := by
  have h1 : (0 : Int) < 2 ^ k := Int.pow_pos (by decide)
  have h2 : (2 : Int) ^ k ≤ 2 ^ 128 := by
    have := Nat.pow_le_pow_right (show 0 < 2 by decide) h
    have e : ∀ k : Nat, ((2 ^ k : Nat) : Int) = (2 : Int) ^ k := fun k => by simp
    rw [← e k, ← e 128]
    omega
  have h3 : (2 : Int) ^ 128 < 10000 ^ 60 := by decide
  exact ⟨by omega, by omega⟩
set_option maxHeartbeats 1000000 in
theorem bigPower_ret (n : Nat) (hn : n ≤ 127) (w0 : World) : Ret Tryd.prog 17 #[.int .i64 (n : Nat)] w0 fun v w' => BigAt w' v (2 ^ n) ∧ Only [] w0 w' := by
  have hs := St.nil w0
  refine ret_of_xc Tryd.func17 (by kernel_rfl) rfl Tryd.ntmps17 rfl rfl rfl ?_
  refine xc_seq ?_
  refine xc_region ?_ ?_; exact rfl
  refine al hs (k := ?_); intro b2 w hz hs
  repeat' (first | refine vs (k := ?_) | refine ps (k := ?_) | (refine st hs (k := ?_); intro w hs) | (refine stA hs (k := ?_); intro w hs) | (refine al hs (k := ?_); intro b w hz hs) | (refine bx hs (k := ?_); intro b w hz hs) | (refine bs hs (k := ?_); intro b w hz hs) | refine XS.nil ?_ | refine then_of ?_ | refine xc_seq ?_ | (refine xc_region ?_ ?_; exact rfl) | refine xc_block ?_ | refine block_normal ?_ | refine xc_ret ?_ | refine then_ret ?_ | refine block_ret ?_ | refine xc_skip ?_ | refine xc_exit ?_ | refine then_exit ?_ | refine loopS_exit ?_ | refine loopS_ret ?_ | refine cutB_ret ?_ | refine cutN_ret ?_ | refine cutN_exit ?_ | refine block_exit ?_ | (refine block_other ?_ ?_; exact rfl) | (refine xc_true ?_ ?_; exact rfl) | (refine xc_false ?_ ?_; exact rfl) | ((with_reducible apply xs_guard); exact rfl; exact rfl; intro c hc; (fail_if_success (have : true = c := hc)); (fail_if_success (have : false = c := hc)); cases c) | (refine xc_if rfl (fun hc => ?_) (fun hc => ?_)) | (refine xc_cond rfl (fun hc => ?_) (fun hc => ?_)))
  (with_reducible apply xs_call); exact rfl; exact rfl; exact bigN_ret 1 _ (by decide) (by decide)
  rintro v w' ⟨hB, ho⟩; replace hs := hs.call0 ho
  obtain ⟨n1, a1, l1, c1, rfl⟩ := hB.shape
  obtain ⟨R, hs, hB⟩ := hB.read hs rfl
  refine al hs (k := ?_); intro b3 w hz hs
  repeat' (first | refine vs (k := ?_) | refine ps (k := ?_) | (refine st hs (k := ?_); intro w hs) | (refine stA hs (k := ?_); intro w hs) | (refine al hs (k := ?_); intro b w hz hs) | (refine bx hs (k := ?_); intro b w hz hs) | (refine bs hs (k := ?_); intro b w hz hs) | refine XS.nil ?_ | refine then_of ?_ | refine xc_seq ?_ | (refine xc_region ?_ ?_; exact rfl) | refine xc_block ?_ | refine block_normal ?_ | refine xc_ret ?_ | refine then_ret ?_ | refine block_ret ?_ | refine xc_skip ?_ | refine xc_exit ?_ | refine then_exit ?_ | refine loopS_exit ?_ | refine loopS_ret ?_ | refine cutB_ret ?_ | refine cutN_ret ?_ | refine cutN_exit ?_ | refine block_exit ?_ | (refine block_other ?_ ?_; exact rfl) | (refine xc_true ?_ ?_; exact rfl) | (refine xc_false ?_ ?_; exact rfl) | ((with_reducible apply xs_guard); exact rfl; exact rfl; intro c hc; (fail_if_success (have : true = c := hc)); (fail_if_success (have : false = c := hc)); cases c) | (refine xc_if rfl (fun hc => ?_) (fun hc => ?_)) | (refine xc_cond rfl (fun hc => ?_) (fun hc => ?_)))
  have hB1 := hB _ (fun e he => hs.ro e (List.mem_append_left _ he))
  replace hs : St w0 D0 _ _ := hs.unread
  refine xc_cutB (fun (_ : Unit) => [(2, .pointer (some ⟨b2, 0, none⟩)), (3, .pointer (some ⟨b3, 0, none⟩))]) (fun _ w => ∃ n1 a1 l1 c1, BigAt w (.agg #[.bool n1, .slice a1 l1 c1]) (2 ^ n) ∧ St w0 D0 [(b3, .cells #[.bool n1, .slice a1 l1 c1] 31, true), (b2, .cells #[.bool false, .slice none 0 0] 31, true)] w) ?_ ?_
  · refine xc_loopS (fun (k : Nat) => [(0, .int .i64 (n : Nat)), (2, .pointer (some ⟨b2, 0, none⟩)), (3, .pointer (some ⟨b3, 0, none⟩)), (4, .int .i64 (k : Nat))])
      (fun k w => k ≤ n ∧ ∃ n1 a1 l1 c1, BigAt w (.agg #[.bool n1, .slice a1 l1 c1]) (2 ^ k) ∧ St w0 D0 [(b3, .cells #[.bool n1, .slice a1 l1 c1] 31, true), (b2, .cells #[.bool false, .slice none 0 0] 31, true)] w)
      (fun k => n - k) 0 (by (repeat (first | exact agree_nil | (apply agree_cons; exact rfl)))) ⟨Nat.zero_le _, _, _, _, _, hB1, hs⟩ fun k env w hI => ?_
    clear hs hB hB1
    obtain ⟨hk, n2, a2, l2, c2, hB, hs⟩ := hI
    have ei : IntKind.i64.wrap ((k : Int) + 1) = ((k + 1 : Nat) : Int) := by
      have e1 : (k : Int) + 1 = ((k + 1 : Nat) : Int) := by omega
      rw [e1]
      exact i64_small (by omega) (by omega)
    repeat' (first | refine vs (k := ?_) | refine ps (k := ?_) | (refine st hs (k := ?_); intro w hs) | (refine stA hs (k := ?_); intro w hs) | (refine al hs (k := ?_); intro b w hz hs) | (refine bx hs (k := ?_); intro b w hz hs) | (refine bs hs (k := ?_); intro b w hz hs) | refine XS.nil ?_ | refine then_of ?_ | refine xc_seq ?_ | (refine xc_region ?_ ?_; exact rfl) | refine xc_block ?_ | refine block_normal ?_ | refine xc_ret ?_ | refine then_ret ?_ | refine block_ret ?_ | refine xc_skip ?_ | refine xc_exit ?_ | refine then_exit ?_ | refine loopS_exit ?_ | refine loopS_ret ?_ | refine cutB_ret ?_ | refine cutN_ret ?_ | refine cutN_exit ?_ | refine block_exit ?_ | (refine block_other ?_ ?_; exact rfl) | (refine xc_true ?_ ?_; exact rfl) | (refine xc_false ?_ ?_; exact rfl) | ((with_reducible apply xs_guard); exact rfl; exact rfl; intro c hc; (fail_if_success (have : true = c := hc)); (fail_if_success (have : false = c := hc)); cases c) | (refine xc_if rfl (fun hc => ?_) (fun hc => ?_)) | (refine xc_cond rfl (fun hc => ?_) (fun hc => ?_)))
    · (with_reducible apply xs_call); exact rfl; exact rfl; exact bigAdd_ret _ _ (2 ^ k) (2 ^ k) _ hB hB (pow2_in (by omega)) (pow2_in (by omega))
      rintro v w' ⟨hB', ho⟩; replace hs := hs.call0 ho
      obtain ⟨n3, a3, l3, c3, rfl⟩ := hB'.shape
      obtain ⟨R', hs, hB'⟩ := hB'.read hs rfl
      repeat' (first | refine vs (k := ?_) | refine ps (k := ?_) | (refine st hs (k := ?_); intro w hs) | (refine stA hs (k := ?_); intro w hs) | (refine al hs (k := ?_); intro b w hz hs) | (refine bx hs (k := ?_); intro b w hz hs) | (refine bs hs (k := ?_); intro b w hz hs) | refine XS.nil ?_ | refine then_of ?_ | refine xc_seq ?_ | (refine xc_region ?_ ?_; exact rfl) | refine xc_block ?_ | refine block_normal ?_ | refine xc_ret ?_ | refine then_ret ?_ | refine block_ret ?_ | refine xc_skip ?_ | refine xc_exit ?_ | refine then_exit ?_ | refine loopS_exit ?_ | refine loopS_ret ?_ | refine cutB_ret ?_ | refine cutN_ret ?_ | refine cutN_exit ?_ | refine block_exit ?_ | (refine block_other ?_ ?_; exact rfl) | (refine xc_true ?_ ?_; exact rfl) | (refine xc_false ?_ ?_; exact rfl) | ((with_reducible apply xs_guard); exact rfl; exact rfl; intro c hc; (fail_if_success (have : true = c := hc)); (fail_if_success (have : false = c := hc)); cases c) | (refine xc_if rfl (fun hc => ?_) (fun hc => ?_)) | (refine xc_cond rfl (fun hc => ?_) (fun hc => ?_)))
      have hB3 := hB' _ (fun e he => hs.ro e (List.mem_append_left _ he))
      replace hs : St w0 D0 _ _ := hs.unread
      rw [show (2 : Int) ^ k + 2 ^ k = 2 ^ (k + 1) by rw [Int.pow_succ]; omega] at hB3
      exact loopS_next (k + 1) (by omega) (by (repeat (first | exact agree_nil | (apply agree_cons; first | exact rfl | exact congrArg (Value.int .i64) ei)))) ⟨by omega, _, _, _, _, hB3, hs⟩
    · have hkn : k = n := by omega
      subst hkn
      exact cutB_exit () (by (repeat (first | exact agree_nil | (apply agree_cons; exact rfl)))) ⟨_, _, _, _, hB, hs⟩
  · rintro _ env w ⟨n2, a2, l2, c2, hB, hs⟩
    obtain ⟨R', hs, hB⟩ := hB.read hs rfl
    repeat' (first | refine vs (k := ?_) | refine ps (k := ?_) | (refine st hs (k := ?_); intro w hs) | (refine stA hs (k := ?_); intro w hs) | (refine al hs (k := ?_); intro b w hz hs) | (refine bx hs (k := ?_); intro b w hz hs) | (refine bs hs (k := ?_); intro b w hz hs) | refine XS.nil ?_ | refine then_of ?_ | refine xc_seq ?_ | (refine xc_region ?_ ?_; exact rfl) | refine xc_block ?_ | refine block_normal ?_ | refine xc_ret ?_ | refine then_ret ?_ | refine block_ret ?_ | refine xc_skip ?_ | refine xc_exit ?_ | refine then_exit ?_ | refine loopS_exit ?_ | refine loopS_ret ?_ | refine cutB_ret ?_ | refine cutN_ret ?_ | refine cutN_exit ?_ | refine block_exit ?_ | (refine block_other ?_ ?_; exact rfl) | (refine xc_true ?_ ?_; exact rfl) | (refine xc_false ?_ ?_; exact rfl) | ((with_reducible apply xs_guard); exact rfl; exact rfl; intro c hc; (fail_if_success (have : true = c := hc)); (fail_if_success (have : false = c := hc)); cases c) | (refine xc_if rfl (fun hc => ?_) (fun hc => ?_)) | (refine xc_cond rfl (fun hc => ?_) (fun hc => ?_)))
    first | refine rt (hq := ?_) | refine rt' (hq := ?_)
    exact ⟨hB _ (fun e he => hs.ro e (List.mem_append_left _ he)), hs.only0 rfl⟩
end Go.Proofs.YtkkelelmdbemmaaDoorX
