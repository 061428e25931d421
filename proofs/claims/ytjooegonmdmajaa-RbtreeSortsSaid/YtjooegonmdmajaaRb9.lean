/- slices.Equal of numbers. -/
import Derived.Test.YtjooegonmdmajaaRb8
set_option linter.unusedVariables false
set_option linter.unusedSimpArgs false
set_option maxRecDepth 100000
namespace Go.Proofs.YtjooegonmdmajaaX
open Go Go.RowKit
attribute [local irreducible] XS XC XA thenE blockE retE loopE loopS cutB cutN doneE SE
theorem take_succ_eq {A B : List Int} {i : Nat} (h : A.take i = B.take i) (hA : i < A.length) (hB : i < B.length) (he : A[i] = B[i]) : A.take (i + 1) = B.take (i + 1) := by
  rw [List.take_add_one, List.take_add_one, h, List.getElem?_eq_getElem hA, List.getElem?_eq_getElem hB, he]
theorem next64' {i m : Nat} (h : i < m) (hm : m ≤ 9223372036854775807) : IntKind.i64.wrap ((i : Int) + 1) = ((i + 1 : Nat) : Int) := by
  have e1 : (i : Int) + 1 = ((i + 1 : Nat) : Int) := by omega
  rw [e1]
  exact i64_small (by omega) (by omega)
set_option maxHeartbeats 1000000 in
theorem equal_ret (va vb : Value) (A B : List Int) (hm : A.length ≤ 9223372036854775807) (w0 : World) (hA : DAt w0 va A) (hB : DAt w0 vb B) :
    Ret Try.prog 22 #[va, vb] w0 fun v w' => v = .bool (decide (A = B)) ∧ Only [] w0 w' := by
  obtain ⟨ada, ca, rfl, hA⟩ := hA
  obtain ⟨adb, cb, rfl, hB⟩ := hB
  have hs := St.nil w0
  refine ret_of_xc Try.func22 (by kernel_rfl) rfl Try.ntmps22 rfl rfl rfl ?_
  repeat' (first | refine vs (k := ?_) | refine ps (k := ?_) | (refine st hs (k := ?_); intro w hs) | (refine stA hs (k := ?_); intro w hs) | (refine al hs (k := ?_); intro b w hz hs) | (refine bx hs (k := ?_); intro b w hz hs) | (refine bs hs (k := ?_); intro b w hz hs) | refine XS.nil ?_ | refine then_of ?_ | refine xc_seq ?_ | (refine xc_region ?_ ?_; exact rfl) | refine xc_block ?_ | refine block_normal ?_ | refine xc_ret ?_ | refine then_ret ?_ | refine block_ret ?_ | refine xc_skip ?_ | refine xc_exit ?_ | refine then_exit ?_ | refine loopS_exit ?_ | refine loopS_ret ?_ | refine cutB_ret ?_ | refine cutN_ret ?_ | refine cutN_exit ?_ | refine block_exit ?_ | (refine block_other ?_ ?_; exact rfl) | (refine xc_true ?_ ?_; exact rfl) | (refine xc_false ?_ ?_; exact rfl) | ((with_reducible apply xs_guard); exact rfl; exact rfl; intro c hc; (fail_if_success (have : true = c := hc)); (fail_if_success (have : false = c := hc)); cases c) | (refine xc_if rfl (fun hc => ?_) (fun hc => ?_)) | (refine xc_cond rfl (fun hc => ?_) (fun hc => ?_)))
  · first | refine rt (hq := ?_) | refine rt' (hq := ?_)
    refine ⟨congrArg Value.bool ?_, hs.only0 rfl⟩
    have hne : A ≠ B := fun e => by subst e; simp at hc
    exact (decide_eq_false hne).symm
  · have hln : A.length = B.length := by
      have h : ((A.length : Nat) : Int) = B.length := by simpa using hc
      omega
    refine xc_cutB (fun _ : Unit => []) (fun _ w => A = B ∧ Only [] w0 w) ?_ ?_
    · refine xc_loopS (fun (i : Nat) => [(0, .slice ada A.length ca), (1, .slice adb B.length cb), (12, .int .i64 (A.length : Nat)), (13, .int .i64 (i : Nat))])
        (fun i w => i ≤ A.length ∧ A.take i = B.take i ∧ Only [] w0 w)
        (fun i => A.length - i) 0 (by (repeat (first | exact agree_nil | (apply agree_cons; exact rfl)))) ⟨Nat.zero_le _, by simp, hs.only0 rfl⟩ fun i env w ⟨hi, ht, ho⟩ => ?_
      clear hs
      have hs := St.nil w
      repeat' (first | refine vs (k := ?_) | refine ps (k := ?_) | (refine st hs (k := ?_); intro w hs) | (refine stA hs (k := ?_); intro w hs) | (refine al hs (k := ?_); intro b w hz hs) | (refine bx hs (k := ?_); intro b w hz hs) | (refine bs hs (k := ?_); intro b w hz hs) | refine XS.nil ?_ | refine then_of ?_ | refine xc_seq ?_ | (refine xc_region ?_ ?_; exact rfl) | refine xc_block ?_ | refine block_normal ?_ | refine xc_ret ?_ | refine then_ret ?_ | refine block_ret ?_ | refine xc_skip ?_ | refine xc_exit ?_ | refine then_exit ?_ | refine loopS_exit ?_ | refine loopS_ret ?_ | refine cutB_ret ?_ | refine cutN_ret ?_ | refine cutN_exit ?_ | refine block_exit ?_ | (refine block_other ?_ ?_; exact rfl) | (refine xc_true ?_ ?_; exact rfl) | (refine xc_false ?_ ?_; exact rfl) | ((with_reducible apply xs_guard); exact rfl; exact rfl; intro c hc; (fail_if_success (have : true = c := hc)); (fail_if_success (have : false = c := hc)); cases c) | (refine xc_if rfl (fun hc => ?_) (fun hc => ?_)) | (refine xc_cond rfl (fun hc => ?_) (fun hc => ?_)))
      · have hlt : i < A.length := by omega
        have hltB : i < B.length := by omega
        obtain ⟨ba, oa, csa, fa, rfl, a2, a3, a4⟩ := hA (fun h => by subst h; simp at hlt)
        obtain ⟨bb, ob, csb, fb, rfl, b2, b3, b4⟩ := hB (fun h => by subst h; simp at hltB)
        have ga := a4 i _ (List.getElem?_eq_getElem hlt)
        have gb := b4 i _ (List.getElem?_eq_getElem hltB)
        have a3 := ho.block a3 (by simp)
        have b3 := ho.block b3 (by simp)
        have key : A[i] = B[i] → A.take (i + 1) = B.take (i + 1) := take_succ_eq ht hlt hltB
        have key2 : A[i] ≠ B[i] → A ≠ B := fun h e => h (by subst e; rfl)
        have ei := next64' hlt hm
        have ga' : csa[oa + ((i : Nat) : Int).toNat * 1]? = some (.int .i64 A[i]) := by simpa using ga
        have gb' : csb[ob + ((i : Nat) : Int).toNat * 1]? = some (.int .i64 B[i]) := by simpa using gb
        generalize A[i] = x at *
        generalize B[i] = y at *
        by_cases e : ba = bb
        · subst e
          rw [a3] at b3
          cases b3
          replace hs := hs.track a3 (by simp)
          refine dr [] hs (k := ?_); intro hX w hs
          refine tk 0 hX (k := ?_)
          refine tk 1 hX (k := ?_)
          refine tk 2 hX (hr := fun w' hH => r_indexAddr tabOk rfl rfl rfl (by omega) (by omega)) (k := ?_)
          refine tk 3 hX (v := .int .i64 x) (hr := fun w' hH => r_load tabOk rfl rfl (hH rfl) At.head ga') (k := ?_)
          refine tk 4 hX (k := ?_)
          refine tk 5 hX (k := ?_)
          refine tk 6 hX (hr := fun w' hH => r_indexAddr tabOk rfl rfl rfl (by omega) (by omega)) (k := ?_)
          refine tk 7 hX (v := .int .i64 y) (hr := fun w' hH => r_load tabOk rfl rfl (hH rfl) At.head gb') (k := ?_)
          refine tk 8 hX (k := ?_)
          refine en (k := ?_)
          repeat' (first | refine vs (k := ?_) | refine ps (k := ?_) | (refine st hs (k := ?_); intro w hs) | (refine stA hs (k := ?_); intro w hs) | (refine al hs (k := ?_); intro b w hz hs) | (refine bx hs (k := ?_); intro b w hz hs) | (refine bs hs (k := ?_); intro b w hz hs) | refine XS.nil ?_ | refine then_of ?_ | refine xc_seq ?_ | (refine xc_region ?_ ?_; exact rfl) | refine xc_block ?_ | refine block_normal ?_ | refine xc_ret ?_ | refine then_ret ?_ | refine block_ret ?_ | refine xc_skip ?_ | refine xc_exit ?_ | refine then_exit ?_ | refine loopS_exit ?_ | refine loopS_ret ?_ | refine cutB_ret ?_ | refine cutN_ret ?_ | refine cutN_exit ?_ | refine block_exit ?_ | (refine block_other ?_ ?_; exact rfl) | (refine xc_true ?_ ?_; exact rfl) | (refine xc_false ?_ ?_; exact rfl) | ((with_reducible apply xs_guard); exact rfl; exact rfl; intro c hc; (fail_if_success (have : true = c := hc)); (fail_if_success (have : false = c := hc)); cases c) | (refine xc_if rfl (fun hc => ?_) (fun hc => ?_)) | (refine xc_cond rfl (fun hc => ?_) (fun hc => ?_)))
          · first | refine rt (hq := ?_) | refine rt' (hq := ?_)
            exact ⟨congrArg Value.bool (decide_eq_false (key2 (by simpa using hc))).symm, ho.step (hs.onlyF [] (by simp [a3]) (by simp [D0])) (by simp)⟩
          · exact loopS_next (i + 1) (by omega) (by (repeat (first | exact agree_nil | (apply agree_cons; first | exact rfl | exact congrArg (Value.int .i64) ei)))) ⟨by omega, key (by simpa using hc), ho.step (hs.onlyF [] (by simp [a3]) (by simp [D0])) (by simp)⟩
        · replace hs := (hs.track a3 (by simp)).track b3 (by simpa using Ne.symm e)
          refine dr [] hs (k := ?_); intro hX w hs
          refine tk 0 hX (k := ?_)
          refine tk 1 hX (k := ?_)
          refine tk 2 hX (hr := fun w' hH => r_indexAddr tabOk rfl rfl rfl (by omega) (by omega)) (k := ?_)
          refine tk 3 hX (v := .int .i64 x) (hr := fun w' hH => r_load tabOk rfl rfl (hH rfl) (At.tail At.head) ga') (k := ?_)
          refine tk 4 hX (k := ?_)
          refine tk 5 hX (k := ?_)
          refine tk 6 hX (hr := fun w' hH => r_indexAddr tabOk rfl rfl rfl (by omega) (by omega)) (k := ?_)
          refine tk 7 hX (v := .int .i64 y) (hr := fun w' hH => r_load tabOk rfl rfl (hH rfl) At.head gb') (k := ?_)
          refine tk 8 hX (k := ?_)
          refine en (k := ?_)
          repeat' (first | refine vs (k := ?_) | refine ps (k := ?_) | (refine st hs (k := ?_); intro w hs) | (refine stA hs (k := ?_); intro w hs) | (refine al hs (k := ?_); intro b w hz hs) | (refine bx hs (k := ?_); intro b w hz hs) | (refine bs hs (k := ?_); intro b w hz hs) | refine XS.nil ?_ | refine then_of ?_ | refine xc_seq ?_ | (refine xc_region ?_ ?_; exact rfl) | refine xc_block ?_ | refine block_normal ?_ | refine xc_ret ?_ | refine then_ret ?_ | refine block_ret ?_ | refine xc_skip ?_ | refine xc_exit ?_ | refine then_exit ?_ | refine loopS_exit ?_ | refine loopS_ret ?_ | refine cutB_ret ?_ | refine cutN_ret ?_ | refine cutN_exit ?_ | refine block_exit ?_ | (refine block_other ?_ ?_; exact rfl) | (refine xc_true ?_ ?_; exact rfl) | (refine xc_false ?_ ?_; exact rfl) | ((with_reducible apply xs_guard); exact rfl; exact rfl; intro c hc; (fail_if_success (have : true = c := hc)); (fail_if_success (have : false = c := hc)); cases c) | (refine xc_if rfl (fun hc => ?_) (fun hc => ?_)) | (refine xc_cond rfl (fun hc => ?_) (fun hc => ?_)))
          · first | refine rt (hq := ?_) | refine rt' (hq := ?_)
            exact ⟨congrArg Value.bool (decide_eq_false (key2 (by simpa using hc))).symm, ho.step (hs.onlyF [] (by simp [a3, b3]) (by simp [D0])) (by simp)⟩
          · exact loopS_next (i + 1) (by omega) (by (repeat (first | exact agree_nil | (apply agree_cons; first | exact rfl | exact congrArg (Value.int .i64) ei)))) ⟨by omega, key (by simpa using hc), ho.step (hs.onlyF [] (by simp [a3, b3]) (by simp [D0])) (by simp)⟩
      · have e : i = A.length := by omega
        have hAB : A = B := by
          have h1 : A.take i = A := List.take_of_length_le (by omega)
          have h2 : B.take i = B := List.take_of_length_le (by omega)
          rw [← h1, ht, h2]
        exact cutB_exit () (by (repeat (first | exact agree_nil | (apply agree_cons; exact rfl)))) ⟨hAB, ho.step (hs.only0 rfl) (by simp)⟩
    · rintro _ env w ⟨rfl, ho⟩
      clear hs
      have hs := St.nil w
      repeat' (first | refine vs (k := ?_) | refine ps (k := ?_) | (refine st hs (k := ?_); intro w hs) | (refine stA hs (k := ?_); intro w hs) | (refine al hs (k := ?_); intro b w hz hs) | (refine bx hs (k := ?_); intro b w hz hs) | (refine bs hs (k := ?_); intro b w hz hs) | refine XS.nil ?_ | refine then_of ?_ | refine xc_seq ?_ | (refine xc_region ?_ ?_; exact rfl) | refine xc_block ?_ | refine block_normal ?_ | refine xc_ret ?_ | refine then_ret ?_ | refine block_ret ?_ | refine xc_skip ?_ | refine xc_exit ?_ | refine then_exit ?_ | refine loopS_exit ?_ | refine loopS_ret ?_ | refine cutB_ret ?_ | refine cutN_ret ?_ | refine cutN_exit ?_ | refine block_exit ?_ | (refine block_other ?_ ?_; exact rfl) | (refine xc_true ?_ ?_; exact rfl) | (refine xc_false ?_ ?_; exact rfl) | ((with_reducible apply xs_guard); exact rfl; exact rfl; intro c hc; (fail_if_success (have : true = c := hc)); (fail_if_success (have : false = c := hc)); cases c) | (refine xc_if rfl (fun hc => ?_) (fun hc => ?_)) | (refine xc_cond rfl (fun hc => ?_) (fun hc => ?_)))
      first | refine rt (hq := ?_) | refine rt' (hq := ?_)
      exact ⟨congrArg Value.bool (decide_eq_true rfl).symm, ho.step (hs.only0 rfl) (by simp)⟩
end Go.Proofs.YtjooegonmdmajaaX
