/- Plain: whole numbers in digits of base 10000, the lowest first. No program stands here. -/
import Derived.Test.YtkkelelmdbemmaaDoorX
set_option linter.unusedVariables false
namespace Go.Proofs.YtkkelelmdbemmaaDoorX

/-- What digits are worth. -/
def valD : List Int → Int
  | [] => 0
  | d :: ds => d + 10000 * valD ds
def DOk (ds : List Int) : Prop := ∀ d ∈ ds, 0 ≤ d ∧ d < 10000
/-- No nought ahead of the highest. -/
def Trim (ds : List Int) : Prop := ∀ d, ds.getLast? = some d → d ≠ 0
theorem valD_append : ∀ (xs ys : List Int), valD (xs ++ ys) = valD xs + 10000 ^ xs.length * valD ys
  | [], ys => by simp [valD]
  | x :: xs, ys => by
    simp only [List.cons_append, valD, valD_append xs ys, List.length_cons]
    rw [Int.pow_succ]
    grind
theorem valD_snoc (xs : List Int) (d : Int) : valD (xs ++ [d]) = valD xs + 10000 ^ xs.length * d := by rw [valD_append]; simp [valD]
theorem valD_nonneg : ∀ {ds : List Int}, DOk ds → 0 ≤ valD ds
  | [], _ => Int.le_refl _
  | d :: ds, h => by
    have := h d (by simp)
    have := valD_nonneg (ds := ds) fun x hx => h x (List.mem_cons_of_mem _ hx)
    simp only [valD]; omega
theorem valD_lt : ∀ {ds : List Int}, DOk ds → valD ds < 10000 ^ ds.length
  | [], _ => by simp [valD]
  | d :: ds, h => by
    have := h d (by simp)
    have := valD_lt (ds := ds) fun x hx => h x (List.mem_cons_of_mem _ hx)
    simp only [valD, List.length_cons, Int.pow_succ]; omega
theorem DOk.nil : DOk [] := by intro d h; cases h
theorem DOk.snoc {ds : List Int} {d : Int} (h : DOk ds) (h0 : 0 ≤ d) (h1 : d < 10000) : DOk (ds ++ [d]) := fun x hx => by
  rcases List.mem_append.1 hx with hx | hx
  · exact h x hx
  · simp at hx; subst hx; exact ⟨h0, h1⟩
theorem pow_pos' (n : Nat) : (0 : Int) < 10000 ^ n := Int.pow_pos (by decide)
theorem pow_mono' {n m : Nat} (h : n ≤ m) : (10000 : Int) ^ n ≤ 10000 ^ m := by
  have := Nat.pow_le_pow_right (show 0 < 10000 by decide) h
  have e : ∀ k : Nat, ((10000 ^ k : Nat) : Int) = (10000 : Int) ^ k := fun k => by simp
  rw [← e n, ← e m]
  omega
/-- Trimmed digits aren't more than the number asks for. -/
theorem valD_ge {ds : List Int} (h : DOk ds) (ht : Trim ds) (hn : ds ≠ []) : 10000 ^ (ds.length - 1) ≤ valD ds := by
  obtain ⟨init, last, rfl⟩ : ∃ i l, ds = i ++ [l] := ⟨ds.dropLast, ds.getLast hn, (List.dropLast_concat_getLast hn).symm⟩
  have h1 := h last (by simp)
  have h2 : last ≠ 0 := ht last (by simp)
  have h3 := valD_nonneg (ds := init) fun x hx => h x (by simp [hx])
  rw [valD_snoc]
  have h4 := pow_pos' init.length
  have : (10000 : Int) ^ init.length * 1 ≤ 10000 ^ init.length * last := Int.mul_le_mul_of_nonneg_left (by omega) (by omega)
  simp only [List.length_append, List.length_singleton, Nat.add_sub_cancel]
  omega
theorem valD_zero {ds : List Int} (h : DOk ds) (ht : Trim ds) : valD ds = 0 ↔ ds = [] := by
  refine ⟨fun hv => ?_, fun e => by subst e; rfl⟩
  by_cases hn : ds = []
  · exact hn
  · have := valD_ge h ht hn
    have := pow_pos' (ds.length - 1)
    omega
theorem len_le {ds : List Int} (h : DOk ds) (ht : Trim ds) {n : Nat} (hv : valD ds < 10000 ^ n) : ds.length ≤ n := by
  by_cases hn : ds = []
  · subst hn; simp
  · have h1 := valD_ge h ht hn
    rcases Nat.lt_or_ge n ds.length with hl | hl
    · have h2 : (10000 : Int) ^ n ≤ 10000 ^ (ds.length - 1) := pow_mono' (by omega)
      omega
    · exact hl
/-- The i-th digit, 0 beyond the last. -/
def dig (ds : List Int) (i : Nat) : Int := ds.getD i 0
theorem dig_rng {ds : List Int} (h : DOk ds) (i : Nat) : 0 ≤ dig ds i ∧ dig ds i < 10000 := by
  unfold dig
  rw [List.getD_eq_getElem?_getD]
  cases he : ds[i]? with
  | none => simp
  | some d => exact h d (List.mem_of_getElem? he)
theorem dig_ge {ds : List Int} {i : Nat} (h : ds.length ≤ i) : dig ds i = 0 := by
  unfold dig; rw [List.getD_eq_getElem?_getD, List.getElem?_eq_none h]; rfl
/-- What stands from the i-th digit on. -/
theorem valD_drop (ds : List Int) (i : Nat) : valD (ds.drop i) = dig ds i + 10000 * valD (ds.drop (i + 1)) := by
  rcases Nat.lt_or_ge i ds.length with h | h
  · rw [List.drop_eq_getElem_cons h]
    simp [valD, dig, h]
  · rw [List.drop_of_length_le h, List.drop_of_length_le (by omega), dig_ge h]; simp [valD]
theorem valD_take (ds : List Int) (i : Nat) : valD (ds.take (i + 1)) = valD (ds.take i) + 10000 ^ i * dig ds i := by
  rcases Nat.lt_or_ge i ds.length with h | h
  · have : ds.take (i + 1) = ds.take i ++ [ds[i]] := by simp
    rw [this, valD_snoc]
    simp [dig, h, Nat.min_eq_left (Nat.le_of_lt h)]
  · rw [List.take_of_length_le h, List.take_of_length_le (by omega), dig_ge h]; simp
end Go.Proofs.YtkkelelmdbemmaaDoorX
