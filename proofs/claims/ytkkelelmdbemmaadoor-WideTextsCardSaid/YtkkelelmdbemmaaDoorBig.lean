/- Layer 1, ref01: each function by what it makes of whole numbers. -/
import Derived.Test.YtkkelelmdbemmaaDoorWide2
import Derived.Test.YtkkelelmdbemmaaDoorBigP
set_option linter.unusedVariables false
set_option linter.unusedSimpArgs false
set_option maxRecDepth 100000
namespace Go.Proofs.YtkkelelmdbemmaaDoorX
open Go Go.RowKit
attribute [local irreducible] XS XC XA thenE blockE retE loopE loopS cutB cutN doneE SE

/-- A slice that holds digits. -/
def DAt (w : World) (sl : Value) (ds : List Int) : Prop :=
  ∃ ad cap, sl = .slice ad ds.length cap ∧ (ds ≠ [] → ∃ (b off : Nat) (cs : List Value) (fz : Nat × Nat), ad = some ⟨b, off, none⟩ ∧ ds.length ≤ cap ∧ w.heap[b]? = some (.cells cs.toArray 3 fz) ∧ ∀ i d, ds[i]? = some d → cs[off + i]? = some (.int .i64 d))
def sg (neg : Bool) (n : Int) : Int := bif neg then -n else n
/-- A whole number. -/
def BigAt (w : World) (v : Value) (x : Int) : Prop := ∃ neg sl ds, v = .agg #[.bool neg, sl] ∧ DAt w sl ds ∧ DOk ds ∧ Trim ds ∧ (ds = [] → neg = false) ∧ x = sg neg (valD ds)
theorem DAt.only {w w' : World} {sl : Value} {ds : List Int} (h : DAt w sl ds) (ho : Only [] w w') : DAt w' sl ds := by
  obtain ⟨ad, cap, rfl, h⟩ := h
  refine ⟨ad, cap, rfl, fun hn => ?_⟩
  obtain ⟨b, off, cs, fz, h1, h2, h3, h4⟩ := h hn
  exact ⟨b, off, cs, fz, h1, h2, ho.block h3 (by simp), h4⟩
theorem BigAt.only {w w' : World} {v : Value} {x : Int} (h : BigAt w v x) (ho : Only [] w w') : BigAt w' v x := by
  obtain ⟨neg, sl, ds, h1, h2, h3⟩ := h
  exact ⟨neg, sl, ds, h1, h2.only ho, h3⟩
theorem i64_small {n : Int} (h0 : -9223372036854775808 ≤ n) (h1 : n < 9223372036854775808) : IntKind.i64.wrap n = n := by rw [wrap_i64]; omega
theorem dig_get {ds : List Int} {i : Nat} (h : i < ds.length) : ds[i]? = some (dig ds i) := by simp [dig, h]
theorem digit_ret (neg : Bool) (sl : Value) (ds : List Int) (w0 : World) (hD : DAt w0 sl ds) (i : Nat) : Ret Tryd.prog 40 #[.agg #[.bool neg, sl], .int .i64 (i : Nat)] w0 fun v w' => v = .int .i64 (dig ds i) ∧ Only [] w0 w' := by
  obtain ⟨ad, cap, rfl, h⟩ := hD
  have hs := St.nil w0
  refine ret_of_xc Tryd.func40 (by kernel_rfl) rfl Tryd.ntmps40 rfl rfl rfl ?_
  repeat' (first | refine vs (k := ?_) | refine ps (k := ?_) | (refine st hs (k := ?_); intro w hs) | (refine stA hs (k := ?_); intro w hs) | (refine al hs (k := ?_); intro b w hz hs) | (refine bx hs (k := ?_); intro b w hz hs) | (refine bs hs (k := ?_); intro b w hz hs) | refine XS.nil ?_ | refine then_of ?_ | refine xc_seq ?_ | (refine xc_region ?_ ?_; exact rfl) | refine xc_block ?_ | refine block_normal ?_ | refine xc_ret ?_ | refine then_ret ?_ | refine block_ret ?_ | refine xc_skip ?_ | refine xc_exit ?_ | refine then_exit ?_ | refine loopS_exit ?_ | refine loopS_ret ?_ | refine cutB_ret ?_ | refine cutN_ret ?_ | refine cutN_exit ?_ | refine block_exit ?_ | (refine block_other ?_ ?_; exact rfl) | (refine xc_true ?_ ?_; exact rfl) | (refine xc_false ?_ ?_; exact rfl) | ((with_reducible apply xs_guard); exact rfl; exact rfl; intro c hc; (fail_if_success (have : true = c := hc)); (fail_if_success (have : false = c := hc)); cases c) | (refine xc_if rfl (fun hc => ?_) (fun hc => ?_)) | (refine xc_cond rfl (fun hc => ?_) (fun hc => ?_)))
  · have hi : i < ds.length := by omega
    obtain ⟨b', off, cs, fz, rfl, h1, h2, h3⟩ := h (by intro e; subst e; simp at hi)
    refine ix (h0 := (by omega)) (h1 := hc) (k := ?_)
    refine lh (cs := cs) (off := off + ((i : Nat) : Int).toNat * 1) ((hs.only0 rfl).block h2 (by simp)) (v := .int .i64 (dig ds i)) (by simpa using h3 i _ (dig_get hi)) (k := ?_)
    repeat' (first | refine vs (k := ?_) | refine ps (k := ?_) | (refine st hs (k := ?_); intro w hs) | (refine stA hs (k := ?_); intro w hs) | (refine al hs (k := ?_); intro b w hz hs) | (refine bx hs (k := ?_); intro b w hz hs) | (refine bs hs (k := ?_); intro b w hz hs) | refine XS.nil ?_ | refine then_of ?_ | refine xc_seq ?_ | (refine xc_region ?_ ?_; exact rfl) | refine xc_block ?_ | refine block_normal ?_ | refine xc_ret ?_ | refine then_ret ?_ | refine block_ret ?_ | refine xc_skip ?_ | refine xc_exit ?_ | refine then_exit ?_ | refine loopS_exit ?_ | refine loopS_ret ?_ | refine cutB_ret ?_ | refine cutN_ret ?_ | refine cutN_exit ?_ | refine block_exit ?_ | (refine block_other ?_ ?_; exact rfl) | (refine xc_true ?_ ?_; exact rfl) | (refine xc_false ?_ ?_; exact rfl) | ((with_reducible apply xs_guard); exact rfl; exact rfl; intro c hc; (fail_if_success (have : true = c := hc)); (fail_if_success (have : false = c := hc)); cases c) | (refine xc_if rfl (fun hc => ?_) (fun hc => ?_)) | (refine xc_cond rfl (fun hc => ?_) (fun hc => ?_)))
    first | refine rt (hq := ?_) | refine rt' (hq := ?_)
    exact ⟨rfl, hs.only0 rfl⟩
  · first | refine rt (hq := ?_) | refine rt' (hq := ?_)
    refine ⟨?_, hs.only0 rfl⟩
    rw [dig_ge (by omega)]; rfl

theorem take_dig {ds : List Int} {k : Nat} (h : dig ds k = 0) : valD (ds.take (k + 1)) = valD (ds.take k) := by rw [valD_take, h]; simp
theorem trim_ret (neg : Bool) (sl : Value) (ds : List Int) (w0 : World) (hD : DAt w0 sl ds) (hok : DOk ds) (hlen : ds.length < 4611686018427387904) : Ret Tryd.prog 32 #[.agg #[.bool neg, sl]] w0 fun v w' => BigAt w' v (sg neg (valD ds)) ∧ Only [] w0 w' := by
  obtain ⟨ad, cap, rfl, h⟩ := hD
  have hs := St.nil w0
  refine ret_of_xc Tryd.func32 (by kernel_rfl) rfl Tryd.ntmps32 rfl rfl rfl ?_
  refine xc_seq ?_
  refine xc_region ?_ ?_; exact rfl
  refine bx hs (k := ?_); intro b1 w hz hs
  refine al hs (k := ?_); intro b2 w hz hs
  repeat' (first | refine vs (k := ?_) | refine ps (k := ?_) | (refine st hs (k := ?_); intro w hs) | (refine stA hs (k := ?_); intro w hs) | (refine al hs (k := ?_); intro b w hz hs) | (refine bx hs (k := ?_); intro b w hz hs) | (refine bs hs (k := ?_); intro b w hz hs) | refine XS.nil ?_ | refine then_of ?_ | refine xc_seq ?_ | (refine xc_region ?_ ?_; exact rfl) | refine xc_block ?_ | refine block_normal ?_ | refine xc_ret ?_ | refine then_ret ?_ | refine block_ret ?_ | refine xc_skip ?_ | refine xc_exit ?_ | refine then_exit ?_ | refine loopS_exit ?_ | refine loopS_ret ?_ | refine cutB_ret ?_ | refine cutN_ret ?_ | refine cutN_exit ?_ | refine block_exit ?_ | (refine block_other ?_ ?_; exact rfl) | (refine xc_true ?_ ?_; exact rfl) | (refine xc_false ?_ ?_; exact rfl) | ((with_reducible apply xs_guard); exact rfl; exact rfl; intro c hc; (fail_if_success (have : true = c := hc)); (fail_if_success (have : false = c := hc)); cases c) | (refine xc_if rfl (fun hc => ?_) (fun hc => ?_)) | (refine xc_cond rfl (fun hc => ?_) (fun hc => ?_)))
  refine xc_cutB (fun (m : Nat) => [(1, .pointer (some ⟨b1, 0, none⟩)), (2, .pointer (some ⟨b2, 0, none⟩))])
    (fun m w => m ≤ ds.length ∧ valD (ds.take m) = valD ds ∧ (m ≠ 0 → dig ds (m - 1) ≠ 0) ∧ St w0 D0 [(b2, .cells #[.bool false, .slice none 0 0] 31, true), (b1, .cells #[.bool neg, .slice ad m cap] 31, true)] w) ?_ ?_
  · refine xc_loopS (fun (m : Nat) => [(1, .pointer (some ⟨b1, 0, none⟩)), (2, .pointer (some ⟨b2, 0, none⟩))])
      (fun m w => m ≤ ds.length ∧ valD (ds.take m) = valD ds ∧ St w0 D0 [(b2, .cells #[.bool false, .slice none 0 0] 31, true), (b1, .cells #[.bool neg, .slice ad m cap] 31, true)] w)
      (fun m => m) ds.length (by (repeat (first | exact agree_nil | (apply agree_cons; exact rfl)))) ⟨Nat.le_refl _, by rw [List.take_length], hs⟩ fun m env w ⟨hm, hv, hs⟩ => ?_
    refine xc_seq ?_
    refine xc_seq ?_
    refine xc_region ?_ ?_; exact rfl
    refine vs (k := ?_)
    refine vs (k := ?_)
    refine vs (k := ?_)
    refine vs (k := ?_)
    refine vs (k := ?_)
    refine xs_late 7 rfl ?_; intro c hc; cases c
    · repeat' (first | refine vs (k := ?_) | refine ps (k := ?_) | (refine st hs (k := ?_); intro w hs) | (refine stA hs (k := ?_); intro w hs) | (refine al hs (k := ?_); intro b w hz hs) | (refine bx hs (k := ?_); intro b w hz hs) | (refine bs hs (k := ?_); intro b w hz hs) | refine XS.nil ?_ | refine then_of ?_ | refine xc_seq ?_ | (refine xc_region ?_ ?_; exact rfl) | refine xc_block ?_ | refine block_normal ?_ | refine xc_ret ?_ | refine then_ret ?_ | refine block_ret ?_ | refine xc_skip ?_ | refine xc_exit ?_ | refine then_exit ?_ | refine loopS_exit ?_ | refine loopS_ret ?_ | refine cutB_ret ?_ | refine cutN_ret ?_ | refine cutN_exit ?_ | refine block_exit ?_ | (refine block_other ?_ ?_; exact rfl) | (refine xc_true ?_ ?_; exact rfl) | (refine xc_false ?_ ?_; exact rfl) | ((with_reducible apply xs_guard); exact rfl; exact rfl; intro c hc; (fail_if_success (have : true = c := hc)); (fail_if_success (have : false = c := hc)); cases c) | (refine xc_if rfl (fun hc => ?_) (fun hc => ?_)) | (refine xc_cond rfl (fun hc => ?_) (fun hc => ?_)))
      have hm0 : m = 0 := by have := of_decide_eq_false hc; omega
      exact cutB_exit m (by (repeat (first | exact agree_nil | (apply agree_cons; exact rfl)))) ⟨hm, hv, fun h => absurd hm0 h, hs⟩
    · have hm0 : 0 < m := by have := of_decide_eq_true hc; omega
      have e1 : IntKind.i64.wrap ((m : Int) - 1) = ((m - 1 : Nat) : Int) := by
        have : (m : Int) - 1 = ((m - 1 : Nat) : Int) := by omega
        rw [this]
        exact i64_small (by omega) (by omega)
      obtain ⟨b', off, cs, fz, rfl, h1, h2, h3⟩ := h (by intro e; subst e; simp at hm; omega)
      refine vs (k := ?_)
      refine vs (k := ?_)
      refine vs (k := ?_)
      refine vs (k := ?_)
      refine vs (k := ?_)
      refine vs (k := ?_)
      rw [e1]
      refine ix (h0 := (by omega)) (h1 := (by omega)) (k := ?_)
      refine lh (cs := cs) (off := off + ((m - 1 : Nat) : Int).toNat * 1) ((hs.only0 rfl).block h2 (by simp)) (v := .int .i64 (dig ds (m - 1))) (by simpa using h3 (m - 1) _ (dig_get (by omega))) (k := ?_)
      refine vs (k := ?_)
      refine vs (k := ?_)
      repeat' (first | refine vs (k := ?_) | refine ps (k := ?_) | (refine st hs (k := ?_); intro w hs) | (refine stA hs (k := ?_); intro w hs) | (refine al hs (k := ?_); intro b w hz hs) | (refine bx hs (k := ?_); intro b w hz hs) | (refine bs hs (k := ?_); intro b w hz hs) | refine XS.nil ?_ | refine then_of ?_ | refine xc_seq ?_ | (refine xc_region ?_ ?_; exact rfl) | refine xc_block ?_ | refine block_normal ?_ | refine xc_ret ?_ | refine then_ret ?_ | refine block_ret ?_ | refine xc_skip ?_ | refine xc_exit ?_ | refine then_exit ?_ | refine loopS_exit ?_ | refine loopS_ret ?_ | refine cutB_ret ?_ | refine cutN_ret ?_ | refine cutN_exit ?_ | refine block_exit ?_ | (refine block_other ?_ ?_; exact rfl) | (refine xc_true ?_ ?_; exact rfl) | (refine xc_false ?_ ?_; exact rfl) | ((with_reducible apply xs_guard); exact rfl; exact rfl; intro c hc; (fail_if_success (have : true = c := hc)); (fail_if_success (have : false = c := hc)); cases c) | (refine xc_if rfl (fun hc => ?_) (fun hc => ?_)) | (refine xc_cond rfl (fun hc => ?_) (fun hc => ?_)))
      · rw [e1]
        refine sl (l := 0) (h := m - 1) (hlo := rfl) (hhi := ⟨_, rfl⟩) (h1 := by omega) (h2 := by omega) (h3 := by omega) (k := ?_)
        repeat' (first | refine vs (k := ?_) | refine ps (k := ?_) | (refine st hs (k := ?_); intro w hs) | (refine stA hs (k := ?_); intro w hs) | (refine al hs (k := ?_); intro b w hz hs) | (refine bx hs (k := ?_); intro b w hz hs) | (refine bs hs (k := ?_); intro b w hz hs) | refine XS.nil ?_ | refine then_of ?_ | refine xc_seq ?_ | (refine xc_region ?_ ?_; exact rfl) | refine xc_block ?_ | refine block_normal ?_ | refine xc_ret ?_ | refine then_ret ?_ | refine block_ret ?_ | refine xc_skip ?_ | refine xc_exit ?_ | refine then_exit ?_ | refine loopS_exit ?_ | refine loopS_ret ?_ | refine cutB_ret ?_ | refine cutN_ret ?_ | refine cutN_exit ?_ | refine block_exit ?_ | (refine block_other ?_ ?_; exact rfl) | (refine xc_true ?_ ?_; exact rfl) | (refine xc_false ?_ ?_; exact rfl) | ((with_reducible apply xs_guard); exact rfl; exact rfl; intro c hc; (fail_if_success (have : true = c := hc)); (fail_if_success (have : false = c := hc)); cases c) | (refine xc_if rfl (fun hc => ?_) (fun hc => ?_)) | (refine xc_cond rfl (fun hc => ?_) (fun hc => ?_)))
        have hd0 : dig ds (m - 1) = 0 := by simpa using hc
        have hx : valD (ds.take (m - 1)) = valD ds := by rw [← take_dig hd0, show m - 1 + 1 = m by omega]; exact hv
        exact loopS_next (m - 1) (by omega) (by (repeat (first | exact agree_nil | (apply agree_cons; exact rfl)))) ⟨by omega, hx, hs⟩
      · have hd0 : dig ds (m - 1) ≠ 0 := by simpa using hc
        exact cutB_exit m (by (repeat (first | exact agree_nil | (apply agree_cons; exact rfl)))) ⟨hm, hv, fun _ => hd0, hs⟩
  · rintro m env w ⟨hm, hv, hd, hs⟩
    have ht : Trim (ds.take m) := fun d hl => by
      rw [List.getLast?_eq_getElem?, List.length_take, Nat.min_eq_left hm] at hl
      rcases Nat.eq_zero_or_pos m with h0 | h0
      · subst h0; simp at hl
      · rw [List.getElem?_take, if_pos (by omega), dig_get (by omega)] at hl
        cases hl
        exact hd (by omega)
    have hok' : DOk (ds.take m) := fun d hm => hok d (List.mem_of_mem_take hm)
    repeat' (first | refine vs (k := ?_) | refine ps (k := ?_) | (refine st hs (k := ?_); intro w hs) | (refine stA hs (k := ?_); intro w hs) | (refine al hs (k := ?_); intro b w hz hs) | (refine bx hs (k := ?_); intro b w hz hs) | (refine bs hs (k := ?_); intro b w hz hs) | refine XS.nil ?_ | refine then_of ?_ | refine xc_seq ?_ | (refine xc_region ?_ ?_; exact rfl) | refine xc_block ?_ | refine block_normal ?_ | refine xc_ret ?_ | refine then_ret ?_ | refine block_ret ?_ | refine xc_skip ?_ | refine xc_exit ?_ | refine then_exit ?_ | refine loopS_exit ?_ | refine loopS_ret ?_ | refine cutB_ret ?_ | refine cutN_ret ?_ | refine cutN_exit ?_ | refine block_exit ?_ | (refine block_other ?_ ?_; exact rfl) | (refine xc_true ?_ ?_; exact rfl) | (refine xc_false ?_ ?_; exact rfl) | ((with_reducible apply xs_guard); exact rfl; exact rfl; intro c hc; (fail_if_success (have : true = c := hc)); (fail_if_success (have : false = c := hc)); cases c) | (refine xc_if rfl (fun hc => ?_) (fun hc => ?_)) | (refine xc_cond rfl (fun hc => ?_) (fun hc => ?_)))
    · first | refine rt (hq := ?_) | refine rt' (hq := ?_)
      have hm0 : m = 0 := by have : ((m : Nat) : Int) = 0 := by simpa using hc
                             omega
      subst hm0
      refine ⟨⟨false, .slice none 0 0, [], rfl, ⟨none, 0, rfl, fun h => absurd rfl h⟩, DOk.nil, (fun d h => by cases h), fun _ => rfl, ?_⟩, hs.only0 rfl⟩
      rw [← hv]; cases neg <;> simp [sg, valD]
    · first | refine rt (hq := ?_) | refine rt' (hq := ?_)
      have hm0 : m ≠ 0 := by have : ¬ ((m : Nat) : Int) = 0 := by simpa using hc
                             omega
      have hl : (ds.take m).length = m := by simp [Nat.min_eq_left hm]
      obtain ⟨b', off, cs, fz, rfl, h1, h2, h3⟩ := h (by intro e; subst e; simp at hm; omega)
      refine ⟨⟨neg, .slice (some ⟨b', off, none⟩) m cap, ds.take m, rfl, ⟨some ⟨b', off, none⟩, cap, by rw [hl], fun _ => ⟨b', off, cs, fz, rfl, by omega, (hs.only0 rfl).block h2 (by simp), fun i d hi => ?_⟩⟩, hok', ht, fun e => ?_, by rw [hv]⟩, hs.only0 rfl⟩
      · rw [List.getElem?_take] at hi
        split at hi
        · exact h3 i d hi
        · cases hi
      · rw [e] at hl; simp at hl; omega
end Go.Proofs.YtkkelelmdbemmaaDoorX
