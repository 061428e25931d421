/- Layer 1, ref01, third part: minus. -/
import Derived.Test.YtkkelelmdbemmaaDoorBig2
set_option linter.unusedVariables false
set_option linter.unusedSimpArgs false
set_option maxRecDepth 100000
namespace Go.Proofs.YtkkelelmdbemmaaDoorX
open Go Go.RowKit
attribute [local irreducible] XS XC XA thenE blockE retE loopE loopS cutB cutN doneE SE

structure Minus (A B xs : List Int) (i : Nat) (c : Int) : Prop where
  len : xs.length = i
  ok : DOk xs
  c0 : 0 ≤ c
  c1 : c ≤ 1
  le : i ≤ A.length
  sum : valD xs - 10000 ^ i * c = valD (A.take i) - valD (B.take i)
theorem minus_next {A B xs : List Int} {i : Nat} {c : Int} (hA : DOk A) (hB : DOk B) (h : Minus A B xs i c) (hi : i < A.length) :
    (dig A i - dig B i - c < 0 → Minus A B (xs ++ [dig A i - dig B i - c + 10000]) (i + 1) 1) ∧ (¬ dig A i - dig B i - c < 0 → Minus A B (xs ++ [dig A i - dig B i - c]) (i + 1) 0) := by
  obtain ⟨h1, h2, h3, h4, h5, h7⟩ := h
  have a1 := dig_rng hA i
  have b1 := dig_rng hB i
  refine ⟨fun hn => ⟨by simp [h1], h2.snoc (by omega) (by omega), by omega, by omega, by omega, ?_⟩, fun hn => ⟨by simp [h1], h2.snoc (by omega) (by omega), by omega, by omega, by omega, ?_⟩⟩
  · rw [valD_snoc, h1, valD_take, valD_take, Int.pow_succ]
    have : (10000 : Int) ^ i * (dig A i - dig B i - c + 10000) = 10000 ^ i * dig A i - 10000 ^ i * dig B i - 10000 ^ i * c + 10000 ^ i * 10000 := by grind
    omega
  · rw [valD_snoc, h1, valD_take, valD_take]
    have : (10000 : Int) ^ i * (dig A i - dig B i - c) = 10000 ^ i * dig A i - 10000 ^ i * dig B i - 10000 ^ i * c := by grind
    omega
theorem minus_end {A B xs : List Int} {i : Nat} {c : Int} (hA : DOk A) (hB : DOk B) (h : Minus A B xs i c) (h1 : A.length ≤ i) (h2 : B.length ≤ A.length) (h3 : valD B ≤ valD A) : valD xs = valD A - valD B := by
  have hs := h.sum
  rw [List.take_of_length_le h1, List.take_of_length_le (by omega)] at hs
  have h4 := valD_lt h.ok
  rw [h.len] at h4
  have h5 := valD_nonneg h.ok
  have hc : c = 0 := by
    have h6 := h.c0
    have h7 := h.c1
    have h8 : c = 0 ∨ c = 1 := by omega
    rcases h8 with h8 | h8
    · exact h8
    · subst h8; omega
  subst hc
  omega
set_option maxHeartbeats 1000000 in
theorem minus_ret (na nb : Bool) (sa sb : Value) (A B : List Int) (w0 : World) (hDA : DAt w0 sa A) (hDB : DAt w0 sb B) (hA : DOk A) (hB : DOk B) (lA : A.length ≤ 1001) (lB : B.length ≤ A.length) (hge : valD B ≤ valD A) :
    Ret Tryd.prog 39 #[.agg #[.bool na, sa], .agg #[.bool nb, sb]] w0 fun v w' => (∃ ds, DAt w' v ds ∧ DOk ds ∧ ds.length ≤ 1001 ∧ valD ds = valD A - valD B) ∧ Only [] w0 w' := by
  obtain ⟨ada, ca, rfl, hDA'⟩ := id hDA
  obtain ⟨adb, cb, rfl, hDB'⟩ := id hDB
  have hs := St.nil w0
  refine ret_of_xc Tryd.func39 (by kernel_rfl) rfl Tryd.ntmps39 rfl rfl rfl ?_
  refine xc_seq ?_
  refine xc_region ?_ ?_; exact rfl
  refine bx hs (k := ?_); intro b2 w hz hs
  refine bx hs (k := ?_); intro b3 w hz hs
  repeat' (first | refine vs (k := ?_) | refine ps (k := ?_) | (refine st hs (k := ?_); intro w hs) | (refine stA hs (k := ?_); intro w hs) | (refine al hs (k := ?_); intro b w hz hs) | (refine bx hs (k := ?_); intro b w hz hs) | (refine bs hs (k := ?_); intro b w hz hs) | refine XS.nil ?_ | refine then_of ?_ | refine xc_seq ?_ | (refine xc_region ?_ ?_; exact rfl) | refine xc_block ?_ | refine block_normal ?_ | refine xc_ret ?_ | refine then_ret ?_ | refine block_ret ?_ | refine xc_skip ?_ | refine xc_exit ?_ | refine then_exit ?_ | refine loopS_exit ?_ | refine loopS_ret ?_ | refine cutB_ret ?_ | refine cutN_ret ?_ | refine cutN_exit ?_ | refine block_exit ?_ | (refine block_other ?_ ?_; exact rfl) | (refine xc_true ?_ ?_; exact rfl) | (refine xc_false ?_ ?_; exact rfl) | ((with_reducible apply xs_guard); exact rfl; exact rfl; intro c hc; (fail_if_success (have : true = c := hc)); (fail_if_success (have : false = c := hc)); cases c) | (refine xc_if rfl (fun hc => ?_) (fun hc => ?_)) | (refine xc_cond rfl (fun hc => ?_) (fun hc => ?_)))
  refine xc_cutB (fun (s : Value) => [(5, s)]) (fun v w => ∃ xs c i, Minus A B xs i c ∧ A.length ≤ i ∧ OwnS w0 D0 [(b3, .cells #[.bool nb, .slice adb B.length cb] 31, true), (b2, .cells #[.bool na, .slice ada A.length ca] 31, true)] 3 1 v i (ints xs) w) ?_ ?_
  · refine xc_loopS (fun (s : Nat × Int × Value × List Int) => [(2, .pointer (some ⟨b2, 0, none⟩)), (3, .pointer (some ⟨b3, 0, none⟩)), (5, s.2.2.1), (6, .int .i64 s.2.1), (7, .int .i64 (s.1 : Nat))])
      (fun s w => Minus A B s.2.2.2 s.1 s.2.1 ∧ OwnS w0 D0 [(b3, .cells #[.bool nb, .slice adb B.length cb] 31, true), (b2, .cells #[.bool na, .slice ada A.length ca] 31, true)] 3 1 s.2.2.1 s.1 (ints s.2.2.2) w)
      (fun s => A.length + 1 - s.1) (0, 0, .slice none 0 0, []) (by (repeat (first | exact agree_nil | (apply agree_cons; exact rfl)))) ⟨⟨rfl, DOk.nil, by decide, by decide, by omega, by simp [valD]⟩, .inl ⟨rfl, rfl, rfl, hs⟩⟩ fun s env w hI => ?_
    obtain ⟨hp, hO⟩ := hI
    clear hs
    generalize hi : s.1 = i at *
    generalize hcc : s.2.1 = c at *
    generalize hvv : s.2.2.1 = v at *
    generalize hxs : s.2.2.2 = xs at *
    have hs := hO.st
    repeat' (first | refine vs (k := ?_) | refine ps (k := ?_) | (refine st hs (k := ?_); intro w hs) | (refine stA hs (k := ?_); intro w hs) | (refine al hs (k := ?_); intro b w hz hs) | (refine bx hs (k := ?_); intro b w hz hs) | (refine bs hs (k := ?_); intro b w hz hs) | refine XS.nil ?_ | refine then_of ?_ | refine xc_seq ?_ | (refine xc_region ?_ ?_; exact rfl) | refine xc_block ?_ | refine block_normal ?_ | refine xc_ret ?_ | refine then_ret ?_ | refine block_ret ?_ | refine xc_skip ?_ | refine xc_exit ?_ | refine then_exit ?_ | refine loopS_exit ?_ | refine loopS_ret ?_ | refine cutB_ret ?_ | refine cutN_ret ?_ | refine cutN_exit ?_ | refine block_exit ?_ | (refine block_other ?_ ?_; exact rfl) | (refine xc_true ?_ ?_; exact rfl) | (refine xc_false ?_ ?_; exact rfl) | ((with_reducible apply xs_guard); exact rfl; exact rfl; intro c hc; (fail_if_success (have : true = c := hc)); (fail_if_success (have : false = c := hc)); cases c) | (refine xc_if rfl (fun hc => ?_) (fun hc => ?_)) | (refine xc_cond rfl (fun hc => ?_) (fun hc => ?_)))
    · have hA1 := dig_rng hA i
      have hB1 := dig_rng hB i
      have hc0 := hp.c0
      have hc1 := hp.c1
      have hle := hp.le
      have hiA : i < A.length := by omega
      obtain ⟨hn1, hn2⟩ := minus_next hA hB hp hiA
      have eS : IntKind.i64.wrap (IntKind.i64.wrap (dig A i - dig B i) - c) = dig A i - dig B i - c := by
        have e1 : IntKind.i64.wrap (dig A i - dig B i) = dig A i - dig B i := i64_small (by omega) (by omega)
        rw [e1]
        exact i64_small (by omega) (by omega)
      have eT : dig A i - dig B i - c < 0 → IntKind.i64.wrap (dig A i - dig B i - c + 10000) = dig A i - dig B i - c + 10000 := fun _ => i64_small (by omega) (by omega)
      have ei : IntKind.i64.wrap ((i : Int) + 1) = ((i + 1 : Nat) : Int) := by
        have e1 : (i : Int) + 1 = ((i + 1 : Nat) : Int) := by omega
        rw [e1]
        exact i64_small (by omega) (by omega)
      obtain ⟨b', off, cs, fz, rfl, h1, h2, h3⟩ := hDA' (by intro e; subst e; simp at hiA)
      have hget : cs[off + ((i : Nat) : Int).toNat * 1]? = some (.int .i64 (dig A i)) := by simpa using h3 i _ (dig_get hiA)
      clear hs
      rcases hO with ⟨rfl, hn, hx, hs⟩ | ⟨g, cap, cur, rfl, hcap, hcl, hxl, htk, hs⟩
      all_goals (
        have hR : ∀ {H : List Ent} {w : World}, St w0 D0 H w → olds H ++ D0.dirty = [] → Hold ((b', .cells cs.toArray 3 fz, false) :: H) w := fun hs ho => hold_cons ((hs.only0 ho).block h2 (by simp)) hs.hold
        refine drB [] b' (.cells cs.toArray 3 fz) hs (k := ?_); intro hX w hs
        refine tk 0 hX (k := ?_)
        refine tk 1 hX (k := ?_)
        refine tk 2 hX (k := ?_)
        refine tk 3 hX (hr := fun w' hH => r_indexAddr tabOk rfl rfl rfl (by omega) (by omega)) (k := ?_)
        refine tk 4 hX (v := .int .i64 (dig A i)) (hr := fun w' hH => r_load tabOk rfl rfl (hH rfl) At.head hget) (k := ?_)
        refine tk 5 hX (k := ?_)
        refine tk 6 hX (k := ?_)
        refine tk 9 hX (k := ?_)
        refine dt 7 hX (k := ?_)
        (with_reducible apply xs_call); exact rfl; exact rfl; exact digit_ret nb _ B _ (hDB.only (hs.only0 rfl)) i
        rintro v w' ⟨rfl, ho⟩; replace hs := hs.call0 ho; repeat' (first | refine vs (k := ?_) | refine ps (k := ?_) | (refine st hs (k := ?_); intro w hs) | (refine stA hs (k := ?_); intro w hs) | (refine al hs (k := ?_); intro b w hz hs) | (refine bx hs (k := ?_); intro b w hz hs) | (refine bs hs (k := ?_); intro b w hz hs) | refine XS.nil ?_ | refine then_of ?_ | refine xc_seq ?_ | (refine xc_region ?_ ?_; exact rfl) | refine xc_block ?_ | refine block_normal ?_ | refine xc_ret ?_ | refine then_ret ?_ | refine block_ret ?_ | refine xc_skip ?_ | refine xc_exit ?_ | refine then_exit ?_ | refine loopS_exit ?_ | refine loopS_ret ?_ | refine cutB_ret ?_ | refine cutN_ret ?_ | refine cutN_exit ?_ | refine block_exit ?_ | (refine block_other ?_ ?_; exact rfl) | (refine xc_true ?_ ?_; exact rfl) | (refine xc_false ?_ ?_; exact rfl) | ((with_reducible apply xs_guard); exact rfl; exact rfl; intro c hc; (fail_if_success (have : true = c := hc)); (fail_if_success (have : false = c := hc)); cases c) | (refine xc_if rfl (fun hc => ?_) (fun hc => ?_)) | (refine xc_cond rfl (fun hc => ?_) (fun hc => ?_)))
        refine dn (k := ?_)
        refine tk 8 hX (k := ?_)
        refine tk 10 hX (k := ?_)
        rw [eS]
        refine tk 11 hX (k := ?_)
        refine en (k := ?_)
        repeat' (first | refine vs (k := ?_) | refine ps (k := ?_) | (refine st hs (k := ?_); intro w hs) | (refine stA hs (k := ?_); intro w hs) | (refine al hs (k := ?_); intro b w hz hs) | (refine bx hs (k := ?_); intro b w hz hs) | (refine bs hs (k := ?_); intro b w hz hs) | refine XS.nil ?_ | refine then_of ?_ | refine xc_seq ?_ | (refine xc_region ?_ ?_; exact rfl) | refine xc_block ?_ | refine block_normal ?_ | refine xc_ret ?_ | refine then_ret ?_ | refine block_ret ?_ | refine xc_skip ?_ | refine xc_exit ?_ | refine then_exit ?_ | refine loopS_exit ?_ | refine loopS_ret ?_ | refine cutB_ret ?_ | refine cutN_ret ?_ | refine cutN_exit ?_ | refine block_exit ?_ | (refine block_other ?_ ?_; exact rfl) | (refine xc_true ?_ ?_; exact rfl) | (refine xc_false ?_ ?_; exact rfl) | ((with_reducible apply xs_guard); exact rfl; exact rfl; intro c hc; (fail_if_success (have : true = c := hc)); (fail_if_success (have : false = c := hc)); cases c) | (refine xc_if rfl (fun hc => ?_) (fun hc => ?_)) | (refine xc_cond rfl (fun hc => ?_) (fun hc => ?_)))
        · rw [eT hc] at hs ⊢
          refine apd (k := i) (xs := ints xs) (news := [.int .i64 (dig A i - dig B i - c + 10000)]) (by first | exact .inl ⟨rfl, hn, hx, hs⟩ | exact .inr ⟨_, _, _, rfl, hcap, hcl, hxl, htk, hs.swap⟩) (hk := by omega) (hk' := by simp only [maxLen]; omega) (kk := ?_)
          intro v' w hO' hv'
          rw [ints_snoc] at hO'
          clear hs
          have hs := hO'.st
          repeat' (first | refine vs (k := ?_) | refine ps (k := ?_) | (refine st hs (k := ?_); intro w hs) | (refine stA hs (k := ?_); intro w hs) | (refine al hs (k := ?_); intro b w hz hs) | (refine bx hs (k := ?_); intro b w hz hs) | (refine bs hs (k := ?_); intro b w hz hs) | refine XS.nil ?_ | refine then_of ?_ | refine xc_seq ?_ | (refine xc_region ?_ ?_; exact rfl) | refine xc_block ?_ | refine block_normal ?_ | refine xc_ret ?_ | refine then_ret ?_ | refine block_ret ?_ | refine xc_skip ?_ | refine xc_exit ?_ | refine then_exit ?_ | refine loopS_exit ?_ | refine loopS_ret ?_ | refine cutB_ret ?_ | refine cutN_ret ?_ | refine cutN_exit ?_ | refine block_exit ?_ | (refine block_other ?_ ?_; exact rfl) | (refine xc_true ?_ ?_; exact rfl) | (refine xc_false ?_ ?_; exact rfl) | ((with_reducible apply xs_guard); exact rfl; exact rfl; intro c hc; (fail_if_success (have : true = c := hc)); (fail_if_success (have : false = c := hc)); cases c) | (refine xc_if rfl (fun hc => ?_) (fun hc => ?_)) | (refine xc_cond rfl (fun hc => ?_) (fun hc => ?_)))
          exact loopS_next (i + 1, 1, v', xs ++ [dig A i - dig B i - c + 10000]) (by simp only [hi]; omega) (by (repeat (first | exact agree_nil | (apply agree_cons; first | exact rfl | exact congrArg (Value.int .i64) ei)))) ⟨hn1 hc, hO'⟩
        · refine apd (k := i) (xs := ints xs) (news := [.int .i64 (dig A i - dig B i - c)]) (by first | exact .inl ⟨rfl, hn, hx, hs⟩ | exact .inr ⟨_, _, _, rfl, hcap, hcl, hxl, htk, hs.swap⟩) (hk := by omega) (hk' := by simp only [maxLen]; omega) (kk := ?_)
          intro v' w hO' hv'
          rw [ints_snoc] at hO'
          clear hs
          have hs := hO'.st
          repeat' (first | refine vs (k := ?_) | refine ps (k := ?_) | (refine st hs (k := ?_); intro w hs) | (refine stA hs (k := ?_); intro w hs) | (refine al hs (k := ?_); intro b w hz hs) | (refine bx hs (k := ?_); intro b w hz hs) | (refine bs hs (k := ?_); intro b w hz hs) | refine XS.nil ?_ | refine then_of ?_ | refine xc_seq ?_ | (refine xc_region ?_ ?_; exact rfl) | refine xc_block ?_ | refine block_normal ?_ | refine xc_ret ?_ | refine then_ret ?_ | refine block_ret ?_ | refine xc_skip ?_ | refine xc_exit ?_ | refine then_exit ?_ | refine loopS_exit ?_ | refine loopS_ret ?_ | refine cutB_ret ?_ | refine cutN_ret ?_ | refine cutN_exit ?_ | refine block_exit ?_ | (refine block_other ?_ ?_; exact rfl) | (refine xc_true ?_ ?_; exact rfl) | (refine xc_false ?_ ?_; exact rfl) | ((with_reducible apply xs_guard); exact rfl; exact rfl; intro c hc; (fail_if_success (have : true = c := hc)); (fail_if_success (have : false = c := hc)); cases c) | (refine xc_if rfl (fun hc => ?_) (fun hc => ?_)) | (refine xc_cond rfl (fun hc => ?_) (fun hc => ?_)))
          exact loopS_next (i + 1, 0, v', xs ++ [dig A i - dig B i - c]) (by simp only [hi]; omega) (by (repeat (first | exact agree_nil | (apply agree_cons; first | exact rfl | exact congrArg (Value.int .i64) ei)))) ⟨hn2 hc, hO'⟩)
    · exact cutB_exit v (by (repeat (first | exact agree_nil | (apply agree_cons; exact rfl)))) ⟨xs, c, i, hp, by omega, hO⟩
  · rintro v env w ⟨xs, c, i, hp, h1, hO⟩
    have hs := hO.st
    repeat' (first | refine vs (k := ?_) | refine ps (k := ?_) | (refine st hs (k := ?_); intro w hs) | (refine stA hs (k := ?_); intro w hs) | (refine al hs (k := ?_); intro b w hz hs) | (refine bx hs (k := ?_); intro b w hz hs) | (refine bs hs (k := ?_); intro b w hz hs) | refine XS.nil ?_ | refine then_of ?_ | refine xc_seq ?_ | (refine xc_region ?_ ?_; exact rfl) | refine xc_block ?_ | refine block_normal ?_ | refine xc_ret ?_ | refine then_ret ?_ | refine block_ret ?_ | refine xc_skip ?_ | refine xc_exit ?_ | refine then_exit ?_ | refine loopS_exit ?_ | refine loopS_ret ?_ | refine cutB_ret ?_ | refine cutN_ret ?_ | refine cutN_exit ?_ | refine block_exit ?_ | (refine block_other ?_ ?_; exact rfl) | (refine xc_true ?_ ?_; exact rfl) | (refine xc_false ?_ ?_; exact rfl) | ((with_reducible apply xs_guard); exact rfl; exact rfl; intro c hc; (fail_if_success (have : true = c := hc)); (fail_if_success (have : false = c := hc)); cases c) | (refine xc_if rfl (fun hc => ?_) (fun hc => ?_)) | (refine xc_cond rfl (fun hc => ?_) (fun hc => ?_)))
    first | refine rt (hq := ?_) | refine rt' (hq := ?_)
    exact ⟨⟨xs, own_dat hO hp.len.symm, hp.ok, by have := hp.le; have := hp.len; omega, minus_end hA hB hp h1 lB hge⟩, hs.only0 rfl⟩
end Go.Proofs.YtkkelelmdbemmaaDoorX
