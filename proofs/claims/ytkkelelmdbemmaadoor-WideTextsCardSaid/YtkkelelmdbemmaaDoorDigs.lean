/- Plain: strings of digits and the numbers that they are. -/
import Derived.Test.YtkkelelmdbemmaaDoorStr2
import Derived.Test.YtkkelelmdbemmaaDoorFmt2
set_option linter.unusedVariables false
set_option linter.unusedSimpArgs false
namespace Go.Proofs.YtkkelelmdbemmaaDoorX
open Go Go.Lib
/-- All are digits. -/
def DigS (l : List UInt8) : Prop := ∀ b ∈ l, 48 ≤ b.toNat ∧ b.toNat ≤ 57
def valS (l : List UInt8) : Nat := l.foldl (fun n b => 10 * n + (b.toNat - 48)) 0
theorem valS_snoc (l : List UInt8) (b : UInt8) : valS (l ++ [b]) = 10 * valS l + (b.toNat - 48) := by simp [valS, List.foldl_append]
theorem foldl_val (l : List UInt8) : ∀ n : Nat, l.foldl (fun n b => 10 * n + (b.toNat - 48)) n = 10 ^ l.length * n + valS l := by
  induction l with
  | nil => intro n; simp [valS]
  | cons a l ih =>
    intro n
    simp only [List.foldl_cons, valS]
    rw [ih, ih (10 * 0 + (a.toNat - 48))]
    simp only [List.length_cons, Nat.pow_succ]
    rw [Nat.mul_add, Nat.mul_zero, Nat.zero_add, Nat.add_assoc, ← Nat.mul_assoc, Nat.mul_assoc (10 ^ l.length)]
theorem valS_append (a b : List UInt8) : valS (a ++ b) = 10 ^ b.length * valS a + valS b := by
  unfold valS
  rw [List.foldl_append, foldl_val b]
  rfl
theorem valS_cons (a : UInt8) (l : List UInt8) : valS (a :: l) = 10 ^ l.length * (a.toNat - 48) + valS l := by
  have := valS_append [a] l
  simpa [valS] using this
theorem byte_ext {a b : UInt8} (h : a.toNat = b.toNat) : a = b := UInt8.toNat_inj.1 h
theorem digs_eq : ∀ (n : Nat) (l : List UInt8), l.length = n + 1 → DigS l → (l.length = 1 ∨ l.head? ≠ some 48) → l = decDigits (valS l)
  | 0, l, hl, hd, _ => by
    obtain ⟨a, rfl⟩ := List.length_eq_one_iff.1 hl
    have h := hd a (by simp)
    have hv : valS [a] = a.toNat - 48 := by simp [valS]
    rw [hv, decDigits_one (by omega)]
    congr 1
    apply byte_ext
    rw [show 48 + (a.toNat - 48) = a.toNat by omega]
    simp
  | n + 1, l, hl, hd, hc => by
    obtain ⟨m, d, rfl⟩ : ∃ m d, l = m ++ [d] := by
      refine ⟨l.dropLast, l.getLast (by intro h; rw [h] at hl; cases hl), (List.dropLast_concat_getLast _).symm⟩
    have hml : m.length = n + 1 := by simpa using hl
    have hmd : DigS m := fun b hb => hd b (List.mem_append_left _ hb)
    have hdd := hd d (by simp)
    have hh : m.head? ≠ some 48 := by
      rcases hc with hc | hc
      · simp at hc; rw [hc] at hml; cases hml
      · rw [List.head?_append] at hc
        cases m with
        | nil => cases hml
        | cons a m => simpa using hc
    have ih := digs_eq n m hml hmd (.inr hh)
    have hpos : 1 ≤ valS m := by
      cases m with
      | nil => cases hml
      | cons a m =>
        have ha := hmd a (by simp)
        have hne : a.toNat ≠ 48 := fun e => hh (by simp; exact byte_ext e)
        rw [valS_cons]
        have : 1 ≤ 10 ^ m.length * (a.toNat - 48) := Nat.mul_pos (Nat.pow_pos (by decide)) (by omega)
        omega
    rw [valS_snoc, decDigits, dif_neg (by omega)]
    have e1 : (10 * valS m + (d.toNat - 48)) / 10 = valS m := by omega
    have e2 : (10 * valS m + (d.toNat - 48)) % 10 = d.toNat - 48 := by omega
    rw [e1, e2, ← ih]
    congr 2
    apply byte_ext
    rw [show 48 + (d.toNat - 48) = d.toNat by omega]
    simp
/-- Without noughts ahead a string of digits is its number's. -/
theorem trimZ_digs : ∀ (l : List UInt8), l ≠ [] → DigS l → trimZ l = decDigits (valS l)
  | [], h, _ => absurd rfl h
  | [a], _, hd => digs_eq 0 [a] rfl hd (.inl rfl)
  | a :: b :: l, _, hd => by
    by_cases e : a = 48
    · subst e
      rw [show trimZ (48 :: b :: l) = trimZ (b :: l) by simp [trimZ], valS_cons]
      rw [trimZ_digs (b :: l) (by simp) (fun x hx => hd x (List.mem_cons_of_mem _ hx))]
      simp
    · rw [show trimZ (a :: b :: l) = a :: b :: l by simp [trimZ, e]]
      exact digs_eq (l.length + 1) _ (by simp) hd (.inr (by simpa using e))
end Go.Proofs.YtkkelelmdbemmaaDoorX
