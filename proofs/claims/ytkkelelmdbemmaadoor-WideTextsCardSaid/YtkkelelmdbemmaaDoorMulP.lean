/- Plain: products digit by digit. No program stands here. -/
import Derived.Test.YtkkelelmdbemmaaDoorBigP
set_option linter.unusedVariables false
namespace Go.Proofs.YtkkelelmdbemmaaDoorX

theorem valD_set : ∀ (ds : List Int) (j : Nat) (d : Int), j < ds.length → valD (ds.set j d) = valD ds + 10000 ^ j * (d - dig ds j)
  | [], _, _, h => absurd h (Nat.not_lt_zero _)
  | x :: ds, 0, d, _ => by simp [valD, dig]; omega
  | x :: ds, j + 1, d, h => by
    simp only [List.set_cons_succ, valD, valD_set ds j d (Nat.lt_of_succ_lt_succ h)]
    have : dig (x :: ds) (j + 1) = dig ds j := by simp [dig]
    rw [this, Int.pow_succ]
    grind
theorem DOk.set {ds : List Int} {j : Nat} {d : Int} (h : DOk ds) (h0 : 0 ≤ d) (h1 : d < 10000) : DOk (ds.set j d) := fun x hx => by
  rcases List.mem_or_eq_of_mem_set hx with hx | rfl
  · exact h x hx
  · exact ⟨h0, h1⟩
theorem dig_set_ne {ds : List Int} {j k : Nat} {d : Int} (h : j ≠ k) : dig (ds.set j d) k = dig ds k := by
  simp [dig, List.getD_eq_getElem?_getD, List.getElem?_set_ne h]
theorem valD_replicate (n : Nat) : valD (List.replicate n 0) = 0 := by
  induction n with
  | zero => rfl
  | succ n ih => simp [List.replicate_succ, valD, ih]
theorem DOk.replicate (n : Nat) : DOk (List.replicate n 0) := fun d hd => by rw [(List.mem_replicate.1 hd).2]; decide
/-- Behind the first i digits of A. -/
structure MulO (A B O : List Int) (i : Nat) : Prop where
  len : O.length = A.length + B.length + 1
  ok : DOk O
  le : i ≤ A.length
  zero : ∀ j, i + B.length ≤ j → dig O j = 0
  sum : valD O = valD (A.take i) * valD B
/-- In the midst of digit i of A: behind k digits of B. -/
structure MulI (A B O : List Int) (i k : Nat) (c : Int) : Prop where
  len : O.length = A.length + B.length + 1
  ok : DOk O
  lt : i < A.length
  kle : k ≤ B.length + 1
  c0 : 0 ≤ c
  c1 : c ≤ 9999
  last : B.length < k → c = 0
  zero : ∀ j, i + B.length < j → dig O j = 0
  zero' : k ≤ B.length → dig O (i + B.length) = 0
  sum : valD O + 10000 ^ (i + k) * c = valD (A.take i) * valD B + 10000 ^ i * dig A i * valD (B.take k)
theorem mul_in {A B O : List Int} {i : Nat} (h : MulO A B O i) (hi : i < A.length) : MulI A B O i 0 0 :=
  ⟨h.len, h.ok, hi, by omega, by decide, by decide, fun _ => rfl, fun j hj => h.zero j (by omega), fun _ => h.zero _ (by omega), by rw [h.sum]; simp [valD]⟩
theorem mul_out {A B O : List Int} {i k : Nat} {c : Int} (h : MulI A B O i k c) (h1 : B.length ≤ k) (h2 : ¬ 0 < c) : MulO A B O (i + 1) := by
  have hc : c = 0 := by have := h.c0; omega
  have hs := h.sum
  rw [hc, List.take_of_length_le h1] at hs
  refine ⟨h.len, h.ok, h.lt, fun j hj => h.zero j (by omega), ?_⟩
  rw [valD_take, Int.add_mul]
  simpa using hs
theorem mul_idx {A B O : List Int} {i k : Nat} {c : Int} (h : MulI A B O i k c) (hgo : k < B.length ∨ 0 < c) : i + k < O.length ∧ k ≤ B.length := by
  have h1 := h.len
  have h2 := h.lt
  have h3 := h.last
  have : k ≤ B.length := by
    rcases Nat.lt_or_ge B.length k with h4 | h4
    · have := h3 h4; omega
    · exact h4
  exact ⟨by omega, this⟩
theorem mul_next {A B O : List Int} {i k : Nat} {c s : Int} (hA : DOk A) (hB : DOk B) (h : MulI A B O i k c) (hgo : k < B.length ∨ 0 < c) (hs : s = dig O (i + k) + dig A i * dig B k + c) :
    0 ≤ s ∧ s ≤ 99999999 ∧ MulI A B (O.set (i + k) (s % 10000)) i (k + 1) (s / 10000) := by
  obtain ⟨hidx, hk⟩ := mul_idx h hgo
  obtain ⟨h1, h2, h3, h4, h5, h6, h7, h8, h9, h10⟩ := h
  have a1 := dig_rng hA i
  have b1 := dig_rng hB k
  have o1 := dig_rng h2 (i + k)
  have p0 : 0 ≤ dig A i * dig B k := Int.mul_nonneg a1.1 b1.1
  have p1 : dig A i * dig B k ≤ 9999 * 9999 := Int.mul_le_mul (by omega) (by omega) b1.1 (by decide)
  refine ⟨by omega, by omega, by simp [h1], h2.set (by omega) (by omega), h3, by omega, by omega, by omega, fun hl => ?_, fun j hj => ?_, fun hk' => ?_, ?_⟩
  · have hkb : k = B.length := by omega
    have e1 : dig B k = 0 := dig_ge (by omega)
    have e2 : dig O (i + k) = 0 := by rw [hkb]; exact h9 (by omega)
    rw [e1, e2] at hs
    omega
  · rw [dig_set_ne (by omega)]; exact h8 j hj
  · rw [dig_set_ne (by omega)]; exact h9 (by omega)
  · rw [valD_set _ _ _ hidx, valD_take]
    have e := Int.mul_ediv_add_emod s 10000
    have e2 : (10000 : Int) ^ (i + (k + 1)) = 10000 ^ (i + k) * 10000 := by rw [← Nat.add_assoc, Int.pow_succ]
    have e3 : (10000 : Int) ^ (i + k) = 10000 ^ i * 10000 ^ k := Int.pow_add ..
    generalize s / 10000 = q at *
    generalize s % 10000 = r at *
    rw [e2]
    rw [e3] at h10 ⊢
    subst hs
    grind
end Go.Proofs.YtkkelelmdbemmaaDoorX
