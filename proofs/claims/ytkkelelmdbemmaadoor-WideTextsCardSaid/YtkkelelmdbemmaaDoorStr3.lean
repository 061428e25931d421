/- Layer 1: (wide.Int).String. -/
import Derived.Test.YtkkelelmdbemmaaDoorDigs
import Derived.Test.YtkkelelmdbemmaaDoorFmt2
set_option linter.unusedVariables false
set_option linter.unusedSimpArgs false
set_option maxRecDepth 100000
namespace Go.Proofs.YtkkelelmdbemmaaDoorX
open Go Go.RowKit Go.Lib
attribute [local irreducible] XS XC XA thenE blockE retE loopE loopS cutB cutN doneE SE
theorem digS_dec : ∀ u : Nat, DigS (decDigits u) := by
  intro u
  induction u using Nat.strongRecOn with
  | _ u ih =>
    intro b hb
    rw [decDigits] at hb
    split at hb
    · obtain rfl := List.mem_singleton.1 hb
      have : (UInt8.ofNat (48 + u)).toNat = 48 + u := by simp; omega
      omega
    · rcases List.mem_append.1 hb with hb | hb
      · exact ih (u / 10) (by omega) b hb
      · obtain rfl := List.mem_singleton.1 hb
        have : (UInt8.ofNat (48 + u % 10)).toNat = 48 + u % 10 := by simp; omega
        omega
theorem valS_dec : ∀ u : Nat, valS (decDigits u) = u := by
  intro u
  induction u using Nat.strongRecOn with
  | _ u ih =>
    rw [decDigits]
    split
    · have : (UInt8.ofNat (48 + u)).toNat = 48 + u := by simp; omega
      simp only [valS, List.foldl_cons, List.foldl_nil]
      omega
    · have : (UInt8.ofNat (48 + u % 10)).toNat = 48 + u % 10 := by simp; omega
      rw [valS_snoc, ih (u / 10) (by omega)]
      omega
theorem dec_ne (u : Nat) : decDigits u ≠ [] := fun h => by have := decDigits_length u; rw [h] at this; have := nDigits_pos u; simp at *; omega
/-- Noughts ahead. -/
def padZ : Nat → List UInt8 → List UInt8
  | 0, l => l
  | n + 1, l => padZ n (48 :: l)
theorem valS_nought (l : List UInt8) : valS (48 :: l) = valS l := by rw [valS_cons]; simp
theorem digS_cons {a : UInt8} {l : List UInt8} (h1 : 48 ≤ a.toNat ∧ a.toNat ≤ 57) (h : DigS l) : DigS (a :: l) := fun b hb => by
  rcases List.mem_cons.1 hb with rfl | hb
  · exact h1
  · exact h b hb
theorem digS_append {a b : List UInt8} (h : DigS a) (k : DigS b) : DigS (a ++ b) := fun x hx => by
  rcases List.mem_append.1 hx with hx | hx
  · exact h x hx
  · exact k x hx
theorem dec_len18 {u : Nat} (h : u < 1000000000000000000) : (decDigits u).length ≤ 18 := by
  rw [decDigits_length]
  rcases Nat.lt_or_ge 18 (nDigits u) with h1 | h1
  · rcases Nat.eq_zero_or_pos u with rfl | hu
    · rw [nDigits_small (by decide)] at h1; omega
    · exfalso
      have key : ∀ (n u : Nat), nDigits u = n + 1 → 0 < u → 10 ^ n ≤ u := by
        intro n
        induction n with
        | zero => intro u _ h; rw [Nat.pow_zero]; exact h
        | succ n ih =>
          intro u h1 h2
          have hb : ¬ u < 10 := fun h => by rw [nDigits_small h] at h1; omega
          rw [nDigits_big hb] at h1
          have := ih (u / 10) (by omega) (by omega)
          rw [Nat.pow_succ]
          omega
      obtain ⟨n, hn⟩ : ∃ n, nDigits u = n + 1 := ⟨nDigits u - 1, by omega⟩
      have h2 := key n u hn hu
      have h3 : 10 ^ 18 ≤ 10 ^ n := Nat.pow_le_pow_right (by decide) (by omega)
      have h4 : (10 : Nat) ^ 18 = 1000000000000000000 := by decide
      omega
  · exact h1
end Go.Proofs.YtkkelelmdbemmaaDoorX
