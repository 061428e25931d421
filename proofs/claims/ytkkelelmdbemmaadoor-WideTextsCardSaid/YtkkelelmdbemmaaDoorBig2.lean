/- Layer 1, ref01, second part: plus, minus. -/
import Derived.Test.YtkkelelmdbemmaaDoorBig
set_option linter.unusedVariables false
set_option linter.unusedSimpArgs false
set_option maxRecDepth 100000
namespace Go.Proofs.YtkkelelmdbemmaaDoorX
open Go Go.RowKit
attribute [local irreducible] XS XC XA thenE blockE retE loopE loopS cutB cutN doneE SE

def ints (xs : List Int) : List Value := xs.map (Value.int .i64)
theorem ints_snoc (xs : List Int) (d : Int) : ints xs ++ [.int .i64 d] = ints (xs ++ [d]) := by simp [ints]
/-- One's own digits, behind the call. -/
theorem own_dat {wb : World} {v : Value} {n : Nat} {xs : List Int} {H : List Ent} {w : World} {D : Ctx} (h : OwnS wb D H 3 1 v n (ints xs) w) (hn : n = xs.length) : DAt w v xs := by
  subst hn
  rcases h with ⟨rfl, h0, hx, hs⟩ | ⟨g, cap, cur, rfl, hc, hl, hxl, ht, hs⟩
  · have : xs = [] := by simpa using h0
    subst this
    exact ⟨none, 0, rfl, fun h => absurd rfl h⟩
  · refine ⟨_, cap, rfl, fun _ => ⟨g, 0, cur, (0, 0), rfl, hc, hs.get At.head, fun i d hi => ?_⟩⟩
    have h1 : (ints xs)[i]? = some (.int .i64 d) := by simp [ints, hi]
    rw [← ht, List.getElem?_take] at h1
    split at h1
    · simpa using h1
    · cases h1
theorem OwnS.st {wb : World} {v : Value} {n k e : Nat} {xs : List Value} {H : List Ent} {w : World} {D : Ctx} (h : OwnS wb D H e k v n xs w) : St wb D H w := by
  rcases h with ⟨_, _, _, hs⟩ | ⟨g, cap, cur, _, _, _, _, _, hs⟩
  · exact hs
  · exact hs.forgetNew
structure Plus (A B xs : List Int) (i : Nat) (c : Int) : Prop where
  len : xs.length = i
  ok : DOk xs
  c0 : 0 ≤ c
  c1 : c ≤ 1
  le : i ≤ max A.length B.length + 1
  last : max A.length B.length < i → c = 0
  sum : valD xs + 10000 ^ i * c = valD (A.take i) + valD (B.take i)
theorem plus_next {A B xs : List Int} {i : Nat} {c : Int} (hA : DOk A) (hB : DOk B) (h : Plus A B xs i c) (hgo : i < A.length ∨ i < B.length ∨ 0 < c) :
    Plus A B (xs ++ [(dig A i + dig B i + c) % 10000]) (i + 1) ((dig A i + dig B i + c) / 10000) := by
  obtain ⟨h1, h2, h3, h4, h5, h6, h7⟩ := h
  have a1 := dig_rng hA i
  have b1 := dig_rng hB i
  refine ⟨by simp [h1], h2.snoc (by omega) (by omega), by omega, by omega, by omega, fun hl => ?_, ?_⟩
  · have : max A.length B.length ≤ i := by omega
    rw [dig_ge (show A.length ≤ i by omega), dig_ge (show B.length ≤ i by omega)]
    omega
  · rw [valD_snoc, h1, valD_take, valD_take, Int.pow_succ]
    have e := Int.mul_ediv_add_emod (dig A i + dig B i + c) 10000
    generalize (dig A i + dig B i + c) / 10000 = q at *
    generalize (dig A i + dig B i + c) % 10000 = r at *
    have : (10000 : Int) ^ i * r + 10000 ^ i * 10000 * q = 10000 ^ i * (dig A i + dig B i + c) := by rw [← e]; grind
    have e3 : (10000 : Int) ^ i * (dig A i + dig B i + c) = 10000 ^ i * dig A i + 10000 ^ i * dig B i + 10000 ^ i * c := by grind
    omega
theorem plus_end {A B xs : List Int} {i : Nat} {c : Int} (h : Plus A B xs i c) (h1 : A.length ≤ i) (h2 : B.length ≤ i) (h3 : ¬ 0 < c) : valD xs = valD A + valD B := by
  have hs := h.sum
  have hc : c = 0 := by have := h.c0; omega
  rw [hc, List.take_of_length_le h1, List.take_of_length_le h2] at hs
  simpa using hs
set_option maxHeartbeats 1000000 in
theorem plus_ret (na nb : Bool) (sa sb : Value) (A B : List Int) (w0 : World) (hDA : DAt w0 sa A) (hDB : DAt w0 sb B) (hA : DOk A) (hB : DOk B) (lA : A.length ≤ 1000) (lB : B.length ≤ 1000) :
    Ret Tryd.prog 37 #[.agg #[.bool na, sa], .agg #[.bool nb, sb]] w0 fun v w' => (∃ ds, DAt w' v ds ∧ DOk ds ∧ ds.length ≤ 1001 ∧ valD ds = valD A + valD B) ∧ Only [] w0 w' := by
  obtain ⟨ada, ca, rfl, hDA'⟩ := id hDA
  obtain ⟨adb, cb, rfl, hDB'⟩ := id hDB
  have hs := St.nil w0
  refine ret_of_xc Tryd.func37 (by kernel_rfl) rfl Tryd.ntmps37 rfl rfl rfl ?_
  refine xc_seq ?_
  refine xc_region ?_ ?_; exact rfl
  refine bx hs (k := ?_); intro b2 w hz hs
  refine bx hs (k := ?_); intro b3 w hz hs
  repeat' (first | refine vs (k := ?_) | refine ps (k := ?_) | (refine st hs (k := ?_); intro w hs) | (refine stA hs (k := ?_); intro w hs) | (refine al hs (k := ?_); intro b w hz hs) | (refine bx hs (k := ?_); intro b w hz hs) | (refine bs hs (k := ?_); intro b w hz hs) | refine XS.nil ?_ | refine then_of ?_ | refine xc_seq ?_ | (refine xc_region ?_ ?_; exact rfl) | refine xc_block ?_ | refine block_normal ?_ | refine xc_ret ?_ | refine then_ret ?_ | refine block_ret ?_ | refine xc_skip ?_ | refine xc_exit ?_ | refine then_exit ?_ | refine loopS_exit ?_ | refine loopS_ret ?_ | refine cutB_ret ?_ | refine cutN_ret ?_ | refine cutN_exit ?_ | refine block_exit ?_ | (refine block_other ?_ ?_; exact rfl) | (refine xc_true ?_ ?_; exact rfl) | (refine xc_false ?_ ?_; exact rfl) | ((with_reducible apply xs_guard); exact rfl; exact rfl; intro c hc; (fail_if_success (have : true = c := hc)); (fail_if_success (have : false = c := hc)); cases c) | (refine xc_if rfl (fun hc => ?_) (fun hc => ?_)) | (refine xc_cond rfl (fun hc => ?_) (fun hc => ?_)))
  refine xc_cutB (fun (s : Value) => [(5, s)]) (fun v w => ∃ xs c i, Plus A B xs i c ∧ A.length ≤ i ∧ B.length ≤ i ∧ ¬ 0 < c ∧ OwnS w0 D0 [(b3, .cells #[.bool nb, .slice adb B.length cb] 31, true), (b2, .cells #[.bool na, .slice ada A.length ca] 31, true)] 3 1 v i (ints xs) w) ?_ ?_
  · refine xc_loopS (fun (s : Nat × Int × Value × List Int) => [(2, .pointer (some ⟨b2, 0, none⟩)), (3, .pointer (some ⟨b3, 0, none⟩)), (5, s.2.2.1), (6, .int .i64 s.2.1), (7, .int .i64 (s.1 : Nat))])
      (fun s w => Plus A B s.2.2.2 s.1 s.2.1 ∧ OwnS w0 D0 [(b3, .cells #[.bool nb, .slice adb B.length cb] 31, true), (b2, .cells #[.bool na, .slice ada A.length ca] 31, true)] 3 1 s.2.2.1 s.1 (ints s.2.2.2) w)
      (fun s => max A.length B.length + 2 - s.1) (0, 0, .slice none 0 0, []) (by (repeat (first | exact agree_nil | (apply agree_cons; exact rfl)))) ⟨⟨rfl, DOk.nil, by decide, by decide, by omega, by omega, by simp [valD]⟩, .inl ⟨rfl, rfl, rfl, hs⟩⟩ fun s env w hI => ?_
    obtain ⟨hp, hO⟩ := hI
    clear hs
    generalize hi : s.1 = i at *
    generalize hcc : s.2.1 = c at *
    generalize hvv : s.2.2.1 = v at *
    generalize hxs : s.2.2.2 = xs at *
    have hs := hO.st
    refine xc_seq ?_
    refine xc_seq ?_
    refine xc_cutN (fun (_ : Unit) => [(2, .pointer (some ⟨b2, 0, none⟩)), (3, .pointer (some ⟨b3, 0, none⟩)), (5, v), (6, .int .i64 c), (7, .int .i64 (i : Nat)), (24, .bool (decide (i < A.length ∨ i < B.length ∨ 0 < c)))]) (fun _ w' => w' = w) ?_ ?_
    · refine xc_region ?_ ?_; exact rfl
      refine vs (k := ?_)
      refine vs (k := ?_)
      refine vs (k := ?_)
      refine vs (k := ?_)
      refine vs (k := ?_)
      refine vs (k := ?_)
      refine xs_late 14 rfl ?_; intro c h14; cases c
      · refine vs (k := ?_)
        refine vs (k := ?_)
        refine vs (k := ?_)
        refine vs (k := ?_)
        refine vs (k := ?_)
        refine vs (k := ?_)
        refine vs (k := ?_)
        refine xs_late 21 rfl ?_; intro c h21; cases c
        · repeat' (first | refine vs (k := ?_) | refine ps (k := ?_) | (refine st hs (k := ?_); intro w hs) | (refine stA hs (k := ?_); intro w hs) | (refine al hs (k := ?_); intro b w hz hs) | (refine bx hs (k := ?_); intro b w hz hs) | (refine bs hs (k := ?_); intro b w hz hs) | refine XS.nil ?_ | refine then_of ?_ | refine xc_seq ?_ | (refine xc_region ?_ ?_; exact rfl) | refine xc_block ?_ | refine block_normal ?_ | refine xc_ret ?_ | refine then_ret ?_ | refine block_ret ?_ | refine xc_skip ?_ | refine xc_exit ?_ | refine then_exit ?_ | refine loopS_exit ?_ | refine loopS_ret ?_ | refine cutB_ret ?_ | refine cutN_ret ?_ | refine cutN_exit ?_ | refine block_exit ?_ | (refine block_other ?_ ?_; exact rfl) | (refine xc_true ?_ ?_; exact rfl) | (refine xc_false ?_ ?_; exact rfl) | ((with_reducible apply xs_guard); exact rfl; exact rfl; intro c hc; (fail_if_success (have : true = c := hc)); (fail_if_success (have : false = c := hc)); cases c) | (refine xc_if rfl (fun hc => ?_) (fun hc => ?_)) | (refine xc_cond rfl (fun hc => ?_) (fun hc => ?_)))
          have e24 : decide (0 < c) = decide (i < A.length ∨ i < B.length ∨ 0 < c) := by
            have h1 := of_decide_eq_false h14
            have h2 := of_decide_eq_false h21
            apply decide_eq_decide.2
            omega
          exact cutN_normal () (by (repeat (first | exact agree_nil | (apply agree_cons; first | exact rfl | exact congrArg Value.bool e24)))) rfl
        · repeat' (first | refine vs (k := ?_) | refine ps (k := ?_) | (refine st hs (k := ?_); intro w hs) | (refine stA hs (k := ?_); intro w hs) | (refine al hs (k := ?_); intro b w hz hs) | (refine bx hs (k := ?_); intro b w hz hs) | (refine bs hs (k := ?_); intro b w hz hs) | refine XS.nil ?_ | refine then_of ?_ | refine xc_seq ?_ | (refine xc_region ?_ ?_; exact rfl) | refine xc_block ?_ | refine block_normal ?_ | refine xc_ret ?_ | refine then_ret ?_ | refine block_ret ?_ | refine xc_skip ?_ | refine xc_exit ?_ | refine then_exit ?_ | refine loopS_exit ?_ | refine loopS_ret ?_ | refine cutB_ret ?_ | refine cutN_ret ?_ | refine cutN_exit ?_ | refine block_exit ?_ | (refine block_other ?_ ?_; exact rfl) | (refine xc_true ?_ ?_; exact rfl) | (refine xc_false ?_ ?_; exact rfl) | ((with_reducible apply xs_guard); exact rfl; exact rfl; intro c hc; (fail_if_success (have : true = c := hc)); (fail_if_success (have : false = c := hc)); cases c) | (refine xc_if rfl (fun hc => ?_) (fun hc => ?_)) | (refine xc_cond rfl (fun hc => ?_) (fun hc => ?_)))
          have e24 : true = decide (i < A.length ∨ i < B.length ∨ 0 < c) := by
            have h2 := of_decide_eq_true h21
            exact (decide_eq_true (by omega)).symm
          exact cutN_normal () (by (repeat (first | exact agree_nil | (apply agree_cons; first | exact rfl | exact congrArg Value.bool e24)))) rfl
      · repeat' (first | refine vs (k := ?_) | refine ps (k := ?_) | (refine st hs (k := ?_); intro w hs) | (refine stA hs (k := ?_); intro w hs) | (refine al hs (k := ?_); intro b w hz hs) | (refine bx hs (k := ?_); intro b w hz hs) | (refine bs hs (k := ?_); intro b w hz hs) | refine XS.nil ?_ | refine then_of ?_ | refine xc_seq ?_ | (refine xc_region ?_ ?_; exact rfl) | refine xc_block ?_ | refine block_normal ?_ | refine xc_ret ?_ | refine then_ret ?_ | refine block_ret ?_ | refine xc_skip ?_ | refine xc_exit ?_ | refine then_exit ?_ | refine loopS_exit ?_ | refine loopS_ret ?_ | refine cutB_ret ?_ | refine cutN_ret ?_ | refine cutN_exit ?_ | refine block_exit ?_ | (refine block_other ?_ ?_; exact rfl) | (refine xc_true ?_ ?_; exact rfl) | (refine xc_false ?_ ?_; exact rfl) | ((with_reducible apply xs_guard); exact rfl; exact rfl; intro c hc; (fail_if_success (have : true = c := hc)); (fail_if_success (have : false = c := hc)); cases c) | (refine xc_if rfl (fun hc => ?_) (fun hc => ?_)) | (refine xc_cond rfl (fun hc => ?_) (fun hc => ?_)))
        have e24 : true = decide (i < A.length ∨ i < B.length ∨ 0 < c) := by
          have h2 := of_decide_eq_true h14
          exact (decide_eq_true (by omega)).symm
        exact cutN_normal () (by (repeat (first | exact agree_nil | (apply agree_cons; first | exact rfl | exact congrArg Value.bool e24)))) rfl
    rintro _ env _ rfl
    repeat' (first | refine vs (k := ?_) | refine ps (k := ?_) | (refine st hs (k := ?_); intro w hs) | (refine stA hs (k := ?_); intro w hs) | (refine al hs (k := ?_); intro b w hz hs) | (refine bx hs (k := ?_); intro b w hz hs) | (refine bs hs (k := ?_); intro b w hz hs) | refine XS.nil ?_ | refine then_of ?_ | refine xc_seq ?_ | (refine xc_region ?_ ?_; exact rfl) | refine xc_block ?_ | refine block_normal ?_ | refine xc_ret ?_ | refine then_ret ?_ | refine block_ret ?_ | refine xc_skip ?_ | refine xc_exit ?_ | refine then_exit ?_ | refine loopS_exit ?_ | refine loopS_ret ?_ | refine cutB_ret ?_ | refine cutN_ret ?_ | refine cutN_exit ?_ | refine block_exit ?_ | (refine block_other ?_ ?_; exact rfl) | (refine xc_true ?_ ?_; exact rfl) | (refine xc_false ?_ ?_; exact rfl) | ((with_reducible apply xs_guard); exact rfl; exact rfl; intro c hc; (fail_if_success (have : true = c := hc)); (fail_if_success (have : false = c := hc)); cases c) | (refine xc_if rfl (fun hc => ?_) (fun hc => ?_)) | (refine xc_cond rfl (fun hc => ?_) (fun hc => ?_)))
    · have hA1 := dig_rng hA i
      have hB1 := dig_rng hB i
      have hc0 := hp.c0
      have hc1 := hp.c1
      have hle := hp.le
      have eS : IntKind.i64.wrap (IntKind.i64.wrap (dig A i + dig B i) + c) = dig A i + dig B i + c := by
        have e1 : IntKind.i64.wrap (dig A i + dig B i) = dig A i + dig B i := i64_small (by omega) (by omega)
        rw [e1]
        exact i64_small (by omega) (by omega)
      have ei : IntKind.i64.wrap ((i : Int) + 1) = ((i + 1 : Nat) : Int) := by
        have e1 : (i : Int) + 1 = ((i + 1 : Nat) : Int) := by omega
        rw [e1]
        exact i64_small (by omega) (by omega)
      clear hs
      rcases hO with ⟨rfl, hn, hx, hs⟩ | ⟨g, cap, cur, rfl, hcap, hcl, hxl, htk, hs⟩
      all_goals (
        refine dr [] hs (k := ?_); intro hX w hs
        refine tk 0 hX (k := ?_)
        refine tk 1 hX (k := ?_)
        refine tk 3 hX (k := ?_)
        refine tk 4 hX (k := ?_)
        refine tk 7 hX (k := ?_)
        refine dt 2 hX (k := ?_)
        (with_reducible apply xs_call); exact rfl; exact rfl; exact digit_ret na _ A _ (hDA.only (hs.only0 rfl)) i
        rintro v w' ⟨rfl, ho⟩; replace hs := hs.call0 ho; repeat' (first | refine vs (k := ?_) | refine ps (k := ?_) | (refine st hs (k := ?_); intro w hs) | (refine stA hs (k := ?_); intro w hs) | (refine al hs (k := ?_); intro b w hz hs) | (refine bx hs (k := ?_); intro b w hz hs) | (refine bs hs (k := ?_); intro b w hz hs) | refine XS.nil ?_ | refine then_of ?_ | refine xc_seq ?_ | (refine xc_region ?_ ?_; exact rfl) | refine xc_block ?_ | refine block_normal ?_ | refine xc_ret ?_ | refine then_ret ?_ | refine block_ret ?_ | refine xc_skip ?_ | refine xc_exit ?_ | refine then_exit ?_ | refine loopS_exit ?_ | refine loopS_ret ?_ | refine cutB_ret ?_ | refine cutN_ret ?_ | refine cutN_exit ?_ | refine block_exit ?_ | (refine block_other ?_ ?_; exact rfl) | (refine xc_true ?_ ?_; exact rfl) | (refine xc_false ?_ ?_; exact rfl) | ((with_reducible apply xs_guard); exact rfl; exact rfl; intro c hc; (fail_if_success (have : true = c := hc)); (fail_if_success (have : false = c := hc)); cases c) | (refine xc_if rfl (fun hc => ?_) (fun hc => ?_)) | (refine xc_cond rfl (fun hc => ?_) (fun hc => ?_)))
        refine dn (k := ?_)
        refine dt 5 hX (k := ?_)
        (with_reducible apply xs_call); exact rfl; exact rfl; exact digit_ret nb _ B _ (hDB.only (hs.only0 rfl)) i
        rintro v w' ⟨rfl, ho⟩; replace hs := hs.call0 ho; repeat' (first | refine vs (k := ?_) | refine ps (k := ?_) | (refine st hs (k := ?_); intro w hs) | (refine stA hs (k := ?_); intro w hs) | (refine al hs (k := ?_); intro b w hz hs) | (refine bx hs (k := ?_); intro b w hz hs) | (refine bs hs (k := ?_); intro b w hz hs) | refine XS.nil ?_ | refine then_of ?_ | refine xc_seq ?_ | (refine xc_region ?_ ?_; exact rfl) | refine xc_block ?_ | refine block_normal ?_ | refine xc_ret ?_ | refine then_ret ?_ | refine block_ret ?_ | refine xc_skip ?_ | refine xc_exit ?_ | refine then_exit ?_ | refine loopS_exit ?_ | refine loopS_ret ?_ | refine cutB_ret ?_ | refine cutN_ret ?_ | refine cutN_exit ?_ | refine block_exit ?_ | (refine block_other ?_ ?_; exact rfl) | (refine xc_true ?_ ?_; exact rfl) | (refine xc_false ?_ ?_; exact rfl) | ((with_reducible apply xs_guard); exact rfl; exact rfl; intro c hc; (fail_if_success (have : true = c := hc)); (fail_if_success (have : false = c := hc)); cases c) | (refine xc_if rfl (fun hc => ?_) (fun hc => ?_)) | (refine xc_cond rfl (fun hc => ?_) (fun hc => ?_)))
        refine dn (k := ?_)
        refine tk 6 hX (k := ?_)
        refine tk 8 hX (k := ?_)
        rw [eS]
        refine tk 9 hX (k := ?_)
        refine en (k := ?_)
        repeat' (first | refine vs (k := ?_) | refine ps (k := ?_) | (refine st hs (k := ?_); intro w hs) | (refine stA hs (k := ?_); intro w hs) | (refine al hs (k := ?_); intro b w hz hs) | (refine bx hs (k := ?_); intro b w hz hs) | (refine bs hs (k := ?_); intro b w hz hs) | refine XS.nil ?_ | refine then_of ?_ | refine xc_seq ?_ | (refine xc_region ?_ ?_; exact rfl) | refine xc_block ?_ | refine block_normal ?_ | refine xc_ret ?_ | refine then_ret ?_ | refine block_ret ?_ | refine xc_skip ?_ | refine xc_exit ?_ | refine then_exit ?_ | refine loopS_exit ?_ | refine loopS_ret ?_ | refine cutB_ret ?_ | refine cutN_ret ?_ | refine cutN_exit ?_ | refine block_exit ?_ | (refine block_other ?_ ?_; exact rfl) | (refine xc_true ?_ ?_; exact rfl) | (refine xc_false ?_ ?_; exact rfl) | ((with_reducible apply xs_guard); exact rfl; exact rfl; intro c hc; (fail_if_success (have : true = c := hc)); (fail_if_success (have : false = c := hc)); cases c) | (refine xc_if rfl (fun hc => ?_) (fun hc => ?_)) | (refine xc_cond rfl (fun hc => ?_) (fun hc => ?_)))
        refine apd (k := i) (xs := ints xs) (news := [.int .i64 ((dig A i + dig B i + c) % 10000)]) (by first | exact .inl ⟨rfl, hn, hx, hs⟩ | exact .inr ⟨_, _, _, rfl, hcap, hcl, hxl, htk, hs.swap⟩) (hk := by omega) (hk' := by simp only [maxLen]; omega) (kk := ?_)
        intro v' w hO' hv'
        rw [ints_snoc] at hO'
        clear hs
        have hs := hO'.st
        repeat' (first | refine vs (k := ?_) | refine ps (k := ?_) | (refine st hs (k := ?_); intro w hs) | (refine stA hs (k := ?_); intro w hs) | (refine al hs (k := ?_); intro b w hz hs) | (refine bx hs (k := ?_); intro b w hz hs) | (refine bs hs (k := ?_); intro b w hz hs) | refine XS.nil ?_ | refine then_of ?_ | refine xc_seq ?_ | (refine xc_region ?_ ?_; exact rfl) | refine xc_block ?_ | refine block_normal ?_ | refine xc_ret ?_ | refine then_ret ?_ | refine block_ret ?_ | refine xc_skip ?_ | refine xc_exit ?_ | refine then_exit ?_ | refine loopS_exit ?_ | refine loopS_ret ?_ | refine cutB_ret ?_ | refine cutN_ret ?_ | refine cutN_exit ?_ | refine block_exit ?_ | (refine block_other ?_ ?_; exact rfl) | (refine xc_true ?_ ?_; exact rfl) | (refine xc_false ?_ ?_; exact rfl) | ((with_reducible apply xs_guard); exact rfl; exact rfl; intro c hc; (fail_if_success (have : true = c := hc)); (fail_if_success (have : false = c := hc)); cases c) | (refine xc_if rfl (fun hc => ?_) (fun hc => ?_)) | (refine xc_cond rfl (fun hc => ?_) (fun hc => ?_)))
        exact loopS_next (i + 1, (dig A i + dig B i + c) / 10000, v', xs ++ [(dig A i + dig B i + c) % 10000]) (by simp only [hi]; omega) (by (repeat (first | exact agree_nil | (apply agree_cons; first | exact rfl | exact congrArg (Value.int .i64) ei)))) ⟨plus_next hA hB hp hc, hO'⟩)
    · exact cutB_exit v (by (repeat (first | exact agree_nil | (apply agree_cons; exact rfl)))) ⟨xs, c, i, hp, by omega, by omega, by omega, hO⟩
  · rintro v env w ⟨xs, c, i, hp, h1, h2, h3, hO⟩
    have hs := hO.st
    repeat' (first | refine vs (k := ?_) | refine ps (k := ?_) | (refine st hs (k := ?_); intro w hs) | (refine stA hs (k := ?_); intro w hs) | (refine al hs (k := ?_); intro b w hz hs) | (refine bx hs (k := ?_); intro b w hz hs) | (refine bs hs (k := ?_); intro b w hz hs) | refine XS.nil ?_ | refine then_of ?_ | refine xc_seq ?_ | (refine xc_region ?_ ?_; exact rfl) | refine xc_block ?_ | refine block_normal ?_ | refine xc_ret ?_ | refine then_ret ?_ | refine block_ret ?_ | refine xc_skip ?_ | refine xc_exit ?_ | refine then_exit ?_ | refine loopS_exit ?_ | refine loopS_ret ?_ | refine cutB_ret ?_ | refine cutN_ret ?_ | refine cutN_exit ?_ | refine block_exit ?_ | (refine block_other ?_ ?_; exact rfl) | (refine xc_true ?_ ?_; exact rfl) | (refine xc_false ?_ ?_; exact rfl) | ((with_reducible apply xs_guard); exact rfl; exact rfl; intro c hc; (fail_if_success (have : true = c := hc)); (fail_if_success (have : false = c := hc)); cases c) | (refine xc_if rfl (fun hc => ?_) (fun hc => ?_)) | (refine xc_cond rfl (fun hc => ?_) (fun hc => ?_)))
    first | refine rt (hq := ?_) | refine rt' (hq := ?_)
    exact ⟨⟨xs, own_dat hO hp.len.symm, hp.ok, by have := hp.le; have := hp.len; omega, plus_end hp h1 h2 h3⟩, hs.only0 rfl⟩
end Go.Proofs.YtkkelelmdbemmaaDoorX
