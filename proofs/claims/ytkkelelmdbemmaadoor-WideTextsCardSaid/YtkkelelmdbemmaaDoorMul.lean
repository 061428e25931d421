/- Layer 1, ref01, tenth part: Mul. -/
import Derived.Test.YtkkelelmdbemmaaDoorBig9
import Derived.Test.YtkkelelmdbemmaaDoorMulP
set_option linter.unusedVariables false
set_option linter.unusedSimpArgs false
set_option maxRecDepth 100000
namespace Go.Proofs.YtkkelelmdbemmaaDoorX
open Go Go.RowKit
attribute [local irreducible] XS XC XA thenE blockE retE loopE loopS cutB cutN doneE SE

theorem ints_get {O : List Int} {j : Nat} (h : j < O.length) : (ints O)[j]? = some (.int .i64 (dig O j)) := by simp [ints, dig, h]
theorem ints_set (O : List Int) (j : Nat) (d : Int) : (ints O).set j (.int .i64 d) = ints (O.set j d) := by simp [ints, List.map_set]
theorem ints_zero (n : Nat) : List.replicate n (Value.int .i64 0) = ints (List.replicate n 0) := by simp [ints]
set_option maxHeartbeats 2000000 in
theorem bigMul_ret (v u : Value) (x y : Int) (w0 : World) (hBx : BigAt w0 v x) (hBy : BigAt w0 u y) (hx : InB x) (hy : InB y) : Ret Tryd.prog 33 #[v, u] w0 fun v w' => BigAt w' v (x * y) ∧ Only [] w0 w' := by
  obtain ⟨na, sa, A, rfl, hDA, hA, tA, zA, rfl⟩ := hBx
  obtain ⟨nb, sb, B, rfl, hDB, hB0, tB, zB, rfl⟩ := hBy
  have lA : A.length ≤ 60 := len_in hA tA hx
  have lB : B.length ≤ 60 := len_in hB0 tB hy
  obtain ⟨ada, ca, rfl, hDA'⟩ := id hDA
  obtain ⟨adb, cb, rfl, hDB'⟩ := id hDB
  have hs := St.nil w0
  refine ret_of_xc Tryd.func33 (by kernel_rfl) rfl Tryd.ntmps33 rfl rfl rfl ?_
  refine xc_seq ?_
  refine xc_region ?_ ?_; exact rfl
  refine bx hs (k := ?_); intro b2 w hz hs
  refine bx hs (k := ?_); intro b3 w hz hs
  refine al hs (k := ?_); intro b4 w hz hs
  have eN : IntKind.i64.wrap (IntKind.i64.wrap ((A.length : Int) + (B.length : Nat)) + 1) = ((A.length + B.length + 1 : Nat) : Int) := by
    have e1 : IntKind.i64.wrap ((A.length : Int) + (B.length : Nat)) = (A.length : Int) + (B.length : Nat) := i64_small (by omega) (by omega)
    have e2 : (A.length : Int) + (B.length : Nat) + 1 = ((A.length + B.length + 1 : Nat) : Int) := by omega
    rw [e1, e2]
    exact i64_small (by omega) (by omega)
  repeat' (first | refine vs (k := ?_) | refine ps (k := ?_) | (refine st hs (k := ?_); intro w hs) | (refine stA hs (k := ?_); intro w hs) | (refine al hs (k := ?_); intro b w hz hs) | (refine bx hs (k := ?_); intro b w hz hs) | (refine bs hs (k := ?_); intro b w hz hs) | refine XS.nil ?_ | refine then_of ?_ | refine xc_seq ?_ | (refine xc_region ?_ ?_; exact rfl) | refine xc_block ?_ | refine block_normal ?_ | refine xc_ret ?_ | refine then_ret ?_ | refine block_ret ?_ | refine xc_skip ?_ | refine xc_exit ?_ | refine then_exit ?_ | refine loopS_exit ?_ | refine loopS_ret ?_ | refine cutB_ret ?_ | refine cutN_ret ?_ | refine cutN_exit ?_ | refine block_exit ?_ | (refine block_other ?_ ?_; exact rfl) | (refine xc_true ?_ ?_; exact rfl) | (refine xc_false ?_ ?_; exact rfl) | ((with_reducible apply xs_guard); exact rfl; exact rfl; intro c hc; (fail_if_success (have : true = c := hc)); (fail_if_success (have : false = c := hc)); cases c) | (refine xc_if rfl (fun hc => ?_) (fun hc => ?_)) | (refine xc_cond rfl (fun hc => ?_) (fun hc => ?_)))
  rw [eN]
  refine mkS hs (hb := by omega) (hm := by omega) (k := ?_); intro b5 w hz hs
  rw [ints_zero] at hs
  repeat' (first | refine vs (k := ?_) | refine ps (k := ?_) | (refine st hs (k := ?_); intro w hs) | (refine stA hs (k := ?_); intro w hs) | (refine al hs (k := ?_); intro b w hz hs) | (refine bx hs (k := ?_); intro b w hz hs) | (refine bs hs (k := ?_); intro b w hz hs) | refine XS.nil ?_ | refine then_of ?_ | refine xc_seq ?_ | (refine xc_region ?_ ?_; exact rfl) | refine xc_block ?_ | refine block_normal ?_ | refine xc_ret ?_ | refine then_ret ?_ | refine block_ret ?_ | refine xc_skip ?_ | refine xc_exit ?_ | refine then_exit ?_ | refine loopS_exit ?_ | refine loopS_ret ?_ | refine cutB_ret ?_ | refine cutN_ret ?_ | refine cutN_exit ?_ | refine block_exit ?_ | (refine block_other ?_ ?_; exact rfl) | (refine xc_true ?_ ?_; exact rfl) | (refine xc_false ?_ ?_; exact rfl) | ((with_reducible apply xs_guard); exact rfl; exact rfl; intro c hc; (fail_if_success (have : true = c := hc)); (fail_if_success (have : false = c := hc)); cases c) | (refine xc_if rfl (fun hc => ?_) (fun hc => ?_)) | (refine xc_cond rfl (fun hc => ?_) (fun hc => ?_)))
  refine xc_cutB (fun (_ : Unit) => [(2, .pointer (some ⟨b2, 0, none⟩)), (3, .pointer (some ⟨b3, 0, none⟩)), (4, .pointer (some ⟨b4, 0, none⟩)), (5, .slice (some ⟨b5, 0, none⟩) (A.length + B.length + 1) (A.length + B.length + 1))]) (fun _ w => ∃ O, MulO A B O A.length ∧ St w0 D0 [(b5, .cells (ints O).toArray 3, true), (b4, .cells #[.bool false, .slice none 0 0] 31, true), (b3, .cells #[.bool nb, .slice adb B.length cb] 31, true), (b2, .cells #[.bool na, .slice ada A.length ca] 31, true)] w) ?_ ?_
  · refine xc_loopS (fun (s : Nat × List Int) => [(2, .pointer (some ⟨b2, 0, none⟩)), (3, .pointer (some ⟨b3, 0, none⟩)), (4, .pointer (some ⟨b4, 0, none⟩)), (5, .slice (some ⟨b5, 0, none⟩) (A.length + B.length + 1) (A.length + B.length + 1)), (21, .slice ada A.length ca), (22, .int .i64 (A.length : Nat)), (23, .int .i64 (s.1 : Nat))])
      (fun s w => MulO A B s.2 s.1 ∧ St w0 D0 [(b5, .cells (ints s.2).toArray 3, true), (b4, .cells #[.bool false, .slice none 0 0] 31, true), (b3, .cells #[.bool nb, .slice adb B.length cb] 31, true), (b2, .cells #[.bool na, .slice ada A.length ca] 31, true)] w)
      (fun s => A.length - s.1) (0, List.replicate (A.length + B.length + 1) 0) (by (repeat (first | exact agree_nil | (apply agree_cons; exact rfl)))) ⟨⟨by simp, DOk.replicate _, by omega, fun j _ => by simp [dig, List.getD_eq_getElem?_getD, List.getElem?_replicate]; split <;> rfl, by rw [valD_replicate]; simp [valD]⟩, hs⟩ fun s env w hI => ?_
    clear hs
    obtain ⟨hp, hs⟩ := hI
    generalize hsi : s.1 = i at *
    generalize hsO : s.2 = O at *
    repeat' (first | refine vs (k := ?_) | refine ps (k := ?_) | (refine st hs (k := ?_); intro w hs) | (refine stA hs (k := ?_); intro w hs) | (refine al hs (k := ?_); intro b w hz hs) | (refine bx hs (k := ?_); intro b w hz hs) | (refine bs hs (k := ?_); intro b w hz hs) | refine XS.nil ?_ | refine then_of ?_ | refine xc_seq ?_ | (refine xc_region ?_ ?_; exact rfl) | refine xc_block ?_ | refine block_normal ?_ | refine xc_ret ?_ | refine then_ret ?_ | refine block_ret ?_ | refine xc_skip ?_ | refine xc_exit ?_ | refine then_exit ?_ | refine loopS_exit ?_ | refine loopS_ret ?_ | refine cutB_ret ?_ | refine cutN_ret ?_ | refine cutN_exit ?_ | refine block_exit ?_ | (refine block_other ?_ ?_; exact rfl) | (refine xc_true ?_ ?_; exact rfl) | (refine xc_false ?_ ?_; exact rfl) | ((with_reducible apply xs_guard); exact rfl; exact rfl; intro c hc; (fail_if_success (have : true = c := hc)); (fail_if_success (have : false = c := hc)); cases c) | (refine xc_if rfl (fun hc => ?_) (fun hc => ?_)) | (refine xc_cond rfl (fun hc => ?_) (fun hc => ?_)))
    · have hiA : i < A.length := by omega
      obtain ⟨b', off, cs, fz, rfl, h1, h2, h3⟩ := hDA' (by intro e; subst e; simp at hiA)
      refine ix (h0 := (by omega)) (h1 := hc) (k := ?_)
      refine lh (cs := cs) (off := off + ((i : Nat) : Int).toNat * 1) ((hs.only0 rfl).block h2 (by simp)) (v := .int .i64 (dig A i)) (by simpa using h3 i _ (dig_get hiA)) (k := ?_)
      repeat' (first | refine vs (k := ?_) | refine ps (k := ?_) | (refine st hs (k := ?_); intro w hs) | (refine stA hs (k := ?_); intro w hs) | (refine al hs (k := ?_); intro b w hz hs) | (refine bx hs (k := ?_); intro b w hz hs) | (refine bs hs (k := ?_); intro b w hz hs) | refine XS.nil ?_ | refine then_of ?_ | refine xc_seq ?_ | (refine xc_region ?_ ?_; exact rfl) | refine xc_block ?_ | refine block_normal ?_ | refine xc_ret ?_ | refine then_ret ?_ | refine block_ret ?_ | refine xc_skip ?_ | refine xc_exit ?_ | refine then_exit ?_ | refine loopS_exit ?_ | refine loopS_ret ?_ | refine cutB_ret ?_ | refine cutN_ret ?_ | refine cutN_exit ?_ | refine block_exit ?_ | (refine block_other ?_ ?_; exact rfl) | (refine xc_true ?_ ?_; exact rfl) | (refine xc_false ?_ ?_; exact rfl) | ((with_reducible apply xs_guard); exact rfl; exact rfl; intro c hc; (fail_if_success (have : true = c := hc)); (fail_if_success (have : false = c := hc)); cases c) | (refine xc_if rfl (fun hc => ?_) (fun hc => ?_)) | (refine xc_cond rfl (fun hc => ?_) (fun hc => ?_)))
      have ei : IntKind.i64.wrap ((i : Int) + 1) = ((i + 1 : Nat) : Int) := by
        have e1 : (i : Int) + 1 = ((i + 1 : Nat) : Int) := by omega
        rw [e1]
        exact i64_small (by omega) (by omega)
      refine xc_cutB (fun (_ : Unit) => [(2, .pointer (some ⟨b2, 0, none⟩)), (3, .pointer (some ⟨b3, 0, none⟩)), (4, .pointer (some ⟨b4, 0, none⟩)), (5, .slice (some ⟨b5, 0, none⟩) (A.length + B.length + 1) (A.length + B.length + 1)), (21, .slice (some ⟨b', off, none⟩) A.length ca), (22, .int .i64 (A.length : Nat)), (23, .int .i64 (i : Nat))]) (fun _ w => ∃ O, MulO A B O (i + 1) ∧ St w0 D0 [(b5, .cells (ints O).toArray 3, true), (b4, .cells #[.bool false, .slice none 0 0] 31, true), (b3, .cells #[.bool nb, .slice adb B.length cb] 31, true), (b2, .cells #[.bool na, .slice (some ⟨b', off, none⟩) A.length ca] 31, true)] w) ?_ ?_
      · refine xc_loopS (fun (s : Nat × Int × List Int) => [(2, .pointer (some ⟨b2, 0, none⟩)), (3, .pointer (some ⟨b3, 0, none⟩)), (4, .pointer (some ⟨b4, 0, none⟩)), (5, .slice (some ⟨b5, 0, none⟩) (A.length + B.length + 1) (A.length + B.length + 1)), (21, .slice (some ⟨b', off, none⟩) A.length ca), (22, .int .i64 (A.length : Nat)), (23, .int .i64 (i : Nat)), (6, .int .i64 (i : Nat)), (7, .int .i64 (dig A i)), (8, .int .i64 s.2.1), (9, .int .i64 (s.1 : Nat))])
          (fun s w => MulI A B s.2.2 i s.1 s.2.1 ∧ St w0 D0 [(b5, .cells (ints s.2.2).toArray 3, true), (b4, .cells #[.bool false, .slice none 0 0] 31, true), (b3, .cells #[.bool nb, .slice adb B.length cb] 31, true), (b2, .cells #[.bool na, .slice (some ⟨b', off, none⟩) A.length ca] 31, true)] w)
          (fun s => B.length + 2 - s.1) (0, 0, O) (by (repeat (first | exact agree_nil | (apply agree_cons; exact rfl)))) ⟨mul_in hp hiA, hs⟩ fun s2 env w hI => ?_
        clear hs
        obtain ⟨hm, hs⟩ := hI
        generalize hsk : s2.1 = k at *
        generalize hsc : s2.2.1 = c at *
        generalize hsO2 : s2.2.2 = O2 at *
        refine xc_seq ?_
        refine xc_seq ?_
        refine xc_cutN (fun (_ : Unit) => [(2, .pointer (some ⟨b2, 0, none⟩)), (3, .pointer (some ⟨b3, 0, none⟩)), (4, .pointer (some ⟨b4, 0, none⟩)), (5, .slice (some ⟨b5, 0, none⟩) (A.length + B.length + 1) (A.length + B.length + 1)), (21, .slice (some ⟨b', off, none⟩) A.length ca), (22, .int .i64 (A.length : Nat)), (23, .int .i64 (i : Nat)), (6, .int .i64 (i : Nat)), (7, .int .i64 (dig A i)), (8, .int .i64 c), (9, .int .i64 (k : Nat)), (36, .bool (decide (k < B.length ∨ 0 < c)))]) (fun _ w' => w' = w) ?_ ?_
        · refine xc_region ?_ ?_; exact rfl
          refine vs (k := ?_)
          refine vs (k := ?_)
          refine vs (k := ?_)
          refine vs (k := ?_)
          refine vs (k := ?_)
          refine vs (k := ?_)
          refine xs_late 33 rfl ?_; intro c h33; cases c
          · repeat' (first | refine vs (k := ?_) | refine ps (k := ?_) | (refine st hs (k := ?_); intro w hs) | (refine stA hs (k := ?_); intro w hs) | (refine al hs (k := ?_); intro b w hz hs) | (refine bx hs (k := ?_); intro b w hz hs) | (refine bs hs (k := ?_); intro b w hz hs) | refine XS.nil ?_ | refine then_of ?_ | refine xc_seq ?_ | (refine xc_region ?_ ?_; exact rfl) | refine xc_block ?_ | refine block_normal ?_ | refine xc_ret ?_ | refine then_ret ?_ | refine block_ret ?_ | refine xc_skip ?_ | refine xc_exit ?_ | refine then_exit ?_ | refine loopS_exit ?_ | refine loopS_ret ?_ | refine cutB_ret ?_ | refine cutN_ret ?_ | refine cutN_exit ?_ | refine block_exit ?_ | (refine block_other ?_ ?_; exact rfl) | (refine xc_true ?_ ?_; exact rfl) | (refine xc_false ?_ ?_; exact rfl) | ((with_reducible apply xs_guard); exact rfl; exact rfl; intro c hc; (fail_if_success (have : true = c := hc)); (fail_if_success (have : false = c := hc)); cases c) | (refine xc_if rfl (fun hc => ?_) (fun hc => ?_)) | (refine xc_cond rfl (fun hc => ?_) (fun hc => ?_)))
            have e36 : decide (0 < c) = decide (k < B.length ∨ 0 < c) := by
              have h1 := of_decide_eq_false h33
              apply decide_eq_decide.2
              omega
            exact cutN_normal () (by (repeat (first | exact agree_nil | (apply agree_cons; first | exact rfl | exact congrArg Value.bool e36)))) rfl
          · repeat' (first | refine vs (k := ?_) | refine ps (k := ?_) | (refine st hs (k := ?_); intro w hs) | (refine stA hs (k := ?_); intro w hs) | (refine al hs (k := ?_); intro b w hz hs) | (refine bx hs (k := ?_); intro b w hz hs) | (refine bs hs (k := ?_); intro b w hz hs) | refine XS.nil ?_ | refine then_of ?_ | refine xc_seq ?_ | (refine xc_region ?_ ?_; exact rfl) | refine xc_block ?_ | refine block_normal ?_ | refine xc_ret ?_ | refine then_ret ?_ | refine block_ret ?_ | refine xc_skip ?_ | refine xc_exit ?_ | refine then_exit ?_ | refine loopS_exit ?_ | refine loopS_ret ?_ | refine cutB_ret ?_ | refine cutN_ret ?_ | refine cutN_exit ?_ | refine block_exit ?_ | (refine block_other ?_ ?_; exact rfl) | (refine xc_true ?_ ?_; exact rfl) | (refine xc_false ?_ ?_; exact rfl) | ((with_reducible apply xs_guard); exact rfl; exact rfl; intro c hc; (fail_if_success (have : true = c := hc)); (fail_if_success (have : false = c := hc)); cases c) | (refine xc_if rfl (fun hc => ?_) (fun hc => ?_)) | (refine xc_cond rfl (fun hc => ?_) (fun hc => ?_)))
            have e36 : true = decide (k < B.length ∨ 0 < c) := by
              have h1 := of_decide_eq_true h33
              exact (decide_eq_true (by omega)).symm
            exact cutN_normal () (by (repeat (first | exact agree_nil | (apply agree_cons; first | exact rfl | exact congrArg Value.bool e36)))) rfl
        rintro _ env _ rfl
        repeat' (first | refine vs (k := ?_) | refine ps (k := ?_) | (refine st hs (k := ?_); intro w hs) | (refine stA hs (k := ?_); intro w hs) | (refine al hs (k := ?_); intro b w hz hs) | (refine bx hs (k := ?_); intro b w hz hs) | (refine bs hs (k := ?_); intro b w hz hs) | refine XS.nil ?_ | refine then_of ?_ | refine xc_seq ?_ | (refine xc_region ?_ ?_; exact rfl) | refine xc_block ?_ | refine block_normal ?_ | refine xc_ret ?_ | refine then_ret ?_ | refine block_ret ?_ | refine xc_skip ?_ | refine xc_exit ?_ | refine then_exit ?_ | refine loopS_exit ?_ | refine loopS_ret ?_ | refine cutB_ret ?_ | refine cutN_ret ?_ | refine cutN_exit ?_ | refine block_exit ?_ | (refine block_other ?_ ?_; exact rfl) | (refine xc_true ?_ ?_; exact rfl) | (refine xc_false ?_ ?_; exact rfl) | ((with_reducible apply xs_guard); exact rfl; exact rfl; intro c hc; (fail_if_success (have : true = c := hc)); (fail_if_success (have : false = c := hc)); cases c) | (refine xc_if rfl (fun hc => ?_) (fun hc => ?_)) | (refine xc_cond rfl (fun hc => ?_) (fun hc => ?_)))
        · obtain ⟨hs0, hs1, hnx⟩ := mul_next hA hB0 hm hc rfl
          obtain ⟨hidx, hkB⟩ := mul_idx hm hc
          have hlen := hm.len
          have hc0 := hm.c0
          have hc1 := hm.c1
          have a1 := dig_rng hA i
          have b1 := dig_rng hB0 k
          have o1 := dig_rng hm.ok (i + k)
          have p0 : 0 ≤ dig A i * dig B k := Int.mul_nonneg a1.1 b1.1
          have p1 : dig A i * dig B k ≤ 9999 * 9999 := Int.mul_le_mul (by omega) (by omega) b1.1 (by decide)
          have eik : IntKind.i64.wrap ((i : Int) + (k : Nat)) = ((i + k : Nat) : Int) := by
            have e1 : (i : Int) + (k : Nat) = ((i + k : Nat) : Int) := by omega
            rw [e1]
            exact i64_small (by omega) (by omega)
          have ek : IntKind.i64.wrap ((k : Int) + 1) = ((k + 1 : Nat) : Int) := by
            have e1 : (k : Int) + 1 = ((k + 1 : Nat) : Int) := by omega
            rw [e1]
            exact i64_small (by omega) (by omega)
          have eP : IntKind.i64.wrap (dig A i * dig B k) = dig A i * dig B k := i64_small (by omega) (by omega)
          have eQ : IntKind.i64.wrap (dig O2 (i + k) + dig A i * dig B k) = dig O2 (i + k) + dig A i * dig B k := i64_small (by omega) (by omega)
          have eR : IntKind.i64.wrap (dig O2 (i + k) + dig A i * dig B k + c) = dig O2 (i + k) + dig A i * dig B k + c := i64_small (by omega) (by omega)
          have hget : (ints O2)[0 + ((i + k : Nat) : Int).toNat * 1]? = some (.int .i64 (dig O2 (i + k))) := by
            have : 0 + ((i + k : Nat) : Int).toNat * 1 = i + k := by omega
            rw [this]
            exact ints_get hidx
          have hput : PutL (ints O2) (0 + ((i + k : Nat) : Int).toNat * 1) [.int .i64 ((dig O2 (i + k) + dig A i * dig B k + c) % 10000)] (ints (O2.set (i + k) ((dig O2 (i + k) + dig A i * dig B k + c) % 10000))) := by
            have : 0 + ((i + k : Nat) : Int).toNat * 1 = i + k := by omega
            rw [this, ← ints_set]
            exact putL_set (by simpa [ints] using hidx)
          refine dr [] hs (k := ?_); intro hX w hs
          refine tk 0 hX (k := ?_)
          refine tk 1 hX (k := ?_)
          refine tk 2 hX (k := ?_)
          refine tk 3 hX (k := ?_)
          rw [eik]
          refine tk 4 hX (hr := fun w' hH => r_indexAddr tabOk rfl rfl rfl (by omega) (by omega)) (k := ?_)
          refine tk 5 hX (v := .int .i64 (dig O2 (i + k))) (hr := fun w' hH => r_load tabOk rfl rfl (hH rfl) At.head hget) (k := ?_)
          refine tk 6 hX (k := ?_)
          refine tk 7 hX (k := ?_)
          refine tk 8 hX (k := ?_)
          refine tk 12 hX (k := ?_)
          refine dt 9 hX (k := ?_)
          (with_reducible apply xs_call); exact rfl; exact rfl; exact digit_ret nb _ B _ (hDB.only (hs.only0 rfl)) k
          rintro v w' ⟨rfl, ho⟩; replace hs := hs.call0 ho; repeat' (first | refine vs (k := ?_) | refine ps (k := ?_) | (refine st hs (k := ?_); intro w hs) | (refine stA hs (k := ?_); intro w hs) | (refine al hs (k := ?_); intro b w hz hs) | (refine bx hs (k := ?_); intro b w hz hs) | (refine bs hs (k := ?_); intro b w hz hs) | refine XS.nil ?_ | refine then_of ?_ | refine xc_seq ?_ | (refine xc_region ?_ ?_; exact rfl) | refine xc_block ?_ | refine block_normal ?_ | refine xc_ret ?_ | refine then_ret ?_ | refine block_ret ?_ | refine xc_skip ?_ | refine xc_exit ?_ | refine then_exit ?_ | refine loopS_exit ?_ | refine loopS_ret ?_ | refine cutB_ret ?_ | refine cutN_ret ?_ | refine cutN_exit ?_ | refine block_exit ?_ | (refine block_other ?_ ?_; exact rfl) | (refine xc_true ?_ ?_; exact rfl) | (refine xc_false ?_ ?_; exact rfl) | ((with_reducible apply xs_guard); exact rfl; exact rfl; intro c hc; (fail_if_success (have : true = c := hc)); (fail_if_success (have : false = c := hc)); cases c) | (refine xc_if rfl (fun hc => ?_) (fun hc => ?_)) | (refine xc_cond rfl (fun hc => ?_) (fun hc => ?_)))
          refine dn (k := ?_)
          refine tk 10 hX (k := ?_)
          rw [eP]
          refine tk 11 hX (k := ?_)
          rw [eQ]
          refine tk 13 hX (k := ?_)
          rw [eR]
          refine tk 14 hX (k := ?_)
          refine en (k := ?_)
          repeat' (first | refine vs (k := ?_) | refine ps (k := ?_) | (refine st hs (k := ?_); intro w hs) | (refine stA hs (k := ?_); intro w hs) | (refine al hs (k := ?_); intro b w hz hs) | (refine bx hs (k := ?_); intro b w hz hs) | (refine bs hs (k := ?_); intro b w hz hs) | refine XS.nil ?_ | refine then_of ?_ | refine xc_seq ?_ | (refine xc_region ?_ ?_; exact rfl) | refine xc_block ?_ | refine block_normal ?_ | refine xc_ret ?_ | refine then_ret ?_ | refine block_ret ?_ | refine xc_skip ?_ | refine xc_exit ?_ | refine then_exit ?_ | refine loopS_exit ?_ | refine loopS_ret ?_ | refine cutB_ret ?_ | refine cutN_ret ?_ | refine cutN_exit ?_ | refine block_exit ?_ | (refine block_other ?_ ?_; exact rfl) | (refine xc_true ?_ ?_; exact rfl) | (refine xc_false ?_ ?_; exact rfl) | ((with_reducible apply xs_guard); exact rfl; exact rfl; intro c hc; (fail_if_success (have : true = c := hc)); (fail_if_success (have : false = c := hc)); cases c) | (refine xc_if rfl (fun hc => ?_) (fun hc => ?_)) | (refine xc_cond rfl (fun hc => ?_) (fun hc => ?_)))
          rw [eik]
          refine ix (h0 := (by omega)) (h1 := (by omega)) (k := ?_)
          refine st hs (hA := At.head) (hc := hput) (k := ?_); intro w hs
          repeat' (first | refine vs (k := ?_) | refine ps (k := ?_) | (refine st hs (k := ?_); intro w hs) | (refine stA hs (k := ?_); intro w hs) | (refine al hs (k := ?_); intro b w hz hs) | (refine bx hs (k := ?_); intro b w hz hs) | (refine bs hs (k := ?_); intro b w hz hs) | refine XS.nil ?_ | refine then_of ?_ | refine xc_seq ?_ | (refine xc_region ?_ ?_; exact rfl) | refine xc_block ?_ | refine block_normal ?_ | refine xc_ret ?_ | refine then_ret ?_ | refine block_ret ?_ | refine xc_skip ?_ | refine xc_exit ?_ | refine then_exit ?_ | refine loopS_exit ?_ | refine loopS_ret ?_ | refine cutB_ret ?_ | refine cutN_ret ?_ | refine cutN_exit ?_ | refine block_exit ?_ | (refine block_other ?_ ?_; exact rfl) | (refine xc_true ?_ ?_; exact rfl) | (refine xc_false ?_ ?_; exact rfl) | ((with_reducible apply xs_guard); exact rfl; exact rfl; intro c hc; (fail_if_success (have : true = c := hc)); (fail_if_success (have : false = c := hc)); cases c) | (refine xc_if rfl (fun hc => ?_) (fun hc => ?_)) | (refine xc_cond rfl (fun hc => ?_) (fun hc => ?_)))
          exact loopS_next (k + 1, (dig O2 (i + k) + dig A i * dig B k + c) / 10000, O2.set (i + k) ((dig O2 (i + k) + dig A i * dig B k + c) % 10000)) (by simp only [hsk]; omega) (by (repeat (first | exact agree_nil | (apply agree_cons; first | exact rfl | exact congrArg (Value.int .i64) ek)))) ⟨hnx, hs⟩
        · exact cutB_exit () (by (repeat (first | exact agree_nil | (apply agree_cons; exact rfl)))) ⟨O2, mul_out hm (by omega) (by omega), hs⟩
      · rintro _ env w ⟨O2, hp2, hs⟩
        repeat' (first | refine vs (k := ?_) | refine ps (k := ?_) | (refine st hs (k := ?_); intro w hs) | (refine stA hs (k := ?_); intro w hs) | (refine al hs (k := ?_); intro b w hz hs) | (refine bx hs (k := ?_); intro b w hz hs) | (refine bs hs (k := ?_); intro b w hz hs) | refine XS.nil ?_ | refine then_of ?_ | refine xc_seq ?_ | (refine xc_region ?_ ?_; exact rfl) | refine xc_block ?_ | refine block_normal ?_ | refine xc_ret ?_ | refine then_ret ?_ | refine block_ret ?_ | refine xc_skip ?_ | refine xc_exit ?_ | refine then_exit ?_ | refine loopS_exit ?_ | refine loopS_ret ?_ | refine cutB_ret ?_ | refine cutN_ret ?_ | refine cutN_exit ?_ | refine block_exit ?_ | (refine block_other ?_ ?_; exact rfl) | (refine xc_true ?_ ?_; exact rfl) | (refine xc_false ?_ ?_; exact rfl) | ((with_reducible apply xs_guard); exact rfl; exact rfl; intro c hc; (fail_if_success (have : true = c := hc)); (fail_if_success (have : false = c := hc)); cases c) | (refine xc_if rfl (fun hc => ?_) (fun hc => ?_)) | (refine xc_cond rfl (fun hc => ?_) (fun hc => ?_)))
        exact loopS_next (i + 1, O2) (by simp only [hsi]; omega) (by (repeat (first | exact agree_nil | (apply agree_cons; first | exact rfl | exact congrArg (Value.int .i64) ei)))) ⟨hp2, hs⟩
    · have hi : i = A.length := by have := hp.le; omega
      subst hi
      exact cutB_exit () (by (repeat (first | exact agree_nil | (apply agree_cons; exact rfl)))) ⟨O, hp, hs⟩
  · rintro _ env w ⟨O, hp, hs⟩
    have hd : DAt w (.slice (some ⟨b5, 0, none⟩) (A.length + B.length + 1) (A.length + B.length + 1)) O := by
      refine ⟨_, _, by rw [hp.len], fun _ => ⟨b5, 0, ints O, (0, 0), rfl, by rw [hp.len]; exact Nat.le_refl _, hs.get At.head, fun i d hi => by simp [ints, hi]⟩⟩
    repeat' (first | refine vs (k := ?_) | refine ps (k := ?_) | (refine st hs (k := ?_); intro w hs) | (refine stA hs (k := ?_); intro w hs) | (refine al hs (k := ?_); intro b w hz hs) | (refine bx hs (k := ?_); intro b w hz hs) | (refine bs hs (k := ?_); intro b w hz hs) | refine XS.nil ?_ | refine then_of ?_ | refine xc_seq ?_ | (refine xc_region ?_ ?_; exact rfl) | refine xc_block ?_ | refine block_normal ?_ | refine xc_ret ?_ | refine then_ret ?_ | refine block_ret ?_ | refine xc_skip ?_ | refine xc_exit ?_ | refine then_exit ?_ | refine loopS_exit ?_ | refine loopS_ret ?_ | refine cutB_ret ?_ | refine cutN_ret ?_ | refine cutN_exit ?_ | refine block_exit ?_ | (refine block_other ?_ ?_; exact rfl) | (refine xc_true ?_ ?_; exact rfl) | (refine xc_false ?_ ?_; exact rfl) | ((with_reducible apply xs_guard); exact rfl; exact rfl; intro c hc; (fail_if_success (have : true = c := hc)); (fail_if_success (have : false = c := hc)); cases c) | (refine xc_if rfl (fun hc => ?_) (fun hc => ?_)) | (refine xc_cond rfl (fun hc => ?_) (fun hc => ?_)))
    (with_reducible apply xs_call); exact rfl; exact rfl; exact trim_ret (na != nb) _ O _ hd hp.ok (by rw [hp.len]; omega)
    rintro v w' ⟨hB, ho⟩; replace hs := hs.call0 ho
    obtain ⟨n1, a1, l1, c1, rfl⟩ := hB.shape
    replace hs := hs.forgetNew
    obtain ⟨R, hs, hB⟩ := hB.read hs rfl
    repeat' (first | refine vs (k := ?_) | refine ps (k := ?_) | (refine st hs (k := ?_); intro w hs) | (refine stA hs (k := ?_); intro w hs) | (refine al hs (k := ?_); intro b w hz hs) | (refine bx hs (k := ?_); intro b w hz hs) | (refine bs hs (k := ?_); intro b w hz hs) | refine XS.nil ?_ | refine then_of ?_ | refine xc_seq ?_ | (refine xc_region ?_ ?_; exact rfl) | refine xc_block ?_ | refine block_normal ?_ | refine xc_ret ?_ | refine then_ret ?_ | refine block_ret ?_ | refine xc_skip ?_ | refine xc_exit ?_ | refine then_exit ?_ | refine loopS_exit ?_ | refine loopS_ret ?_ | refine cutB_ret ?_ | refine cutN_ret ?_ | refine cutN_exit ?_ | refine block_exit ?_ | (refine block_other ?_ ?_; exact rfl) | (refine xc_true ?_ ?_; exact rfl) | (refine xc_false ?_ ?_; exact rfl) | ((with_reducible apply xs_guard); exact rfl; exact rfl; intro c hc; (fail_if_success (have : true = c := hc)); (fail_if_success (have : false = c := hc)); cases c) | (refine xc_if rfl (fun hc => ?_) (fun hc => ?_)) | (refine xc_cond rfl (fun hc => ?_) (fun hc => ?_)))
    first | refine rt (hq := ?_) | refine rt' (hq := ?_)
    refine ⟨?_, hs.only0 rfl⟩
    have h := hB _ (fun e he => hs.ro e (List.mem_append_left _ he))
    have hsum := hp.sum
    rw [List.take_length] at hsum
    rw [hsum] at h
    have e : sg (na != nb) (valD A * valD B) = sg na (valD A) * sg nb (valD B) := by cases na <;> cases nb <;> simp [sg, Int.neg_mul, Int.mul_neg]
    rw [← e]
    exact h
end Go.Proofs.YtkkelelmdbemmaaDoorX
