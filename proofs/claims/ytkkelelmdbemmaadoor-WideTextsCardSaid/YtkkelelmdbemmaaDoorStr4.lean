/- Layer 1: (wide.Int).String (UNDER WAY). -/
import Derived.Test.YtkkelelmdbemmaaDoorStr3
import Derived.Test.YtkkelelmdbemmaaDoorDiv2
set_option linter.unusedVariables false
set_option linter.unusedSimpArgs false
set_option maxRecDepth 100000
namespace Go.Proofs.YtkkelelmdbemmaaDoorX
open Go Go.RowKit Go.Lib
attribute [local irreducible] XS XC XA thenE blockE retE loopE loopS cutB cutN doneE SE
/-- The digits of a number, with its sign. -/
def textOf (x : Int) : List UInt8 := (if x < 0 then [45] else []) ++ decDigits x.natAbs
structure Txt (n m : Nat) (s : List UInt8) : Prop where
  dig : DigS s
  val : 10 ^ s.length * m + valS s = n
  len : s.length ≤ 60
  le : m ≤ n
theorem txt_len {n m : Nat} {s : List UInt8} (h : Txt n m s) (hm : 0 < m) (hn : n < 340282366920938463463374607431768211456) : s.length ≤ 38 := by
  rcases Nat.lt_or_ge 38 s.length with h1 | h1
  · exfalso
    have h2 : 10 ^ 39 ≤ 10 ^ s.length := Nat.pow_le_pow_right (by decide) h1
    have h3 : 10 ^ s.length ≤ 10 ^ s.length * m := Nat.le_mul_of_pos_right _ hm
    have h4 := h.val
    have h5 : (10 : Nat) ^ 39 = 1000000000000000000000000000000000000000 := by decide
    omega
  · exact h1
theorem txt_next {n m : Nat} {s p : List UInt8} (h : Txt n m s) (hm : 0 < m) (hn : n < 340282366920938463463374607431768211456) (hp : DigS p) (hl : p.length = 18) (hv : valS p = m % 1000000000000000000) : Txt n (m / 1000000000000000000) (p ++ s) := by
  refine ⟨digS_append hp h.dig, ?_, ?_, Nat.le_trans (Nat.div_le_self _ _) h.le⟩
  · rw [valS_append, List.length_append, hl, hv, Nat.pow_add]
    have h1 := h.val
    have h2 : m = 1000000000000000000 * (m / 1000000000000000000) + m % 1000000000000000000 := (Nat.div_add_mod m _).symm
    rw [← h1]
    have e : (10 : Nat) ^ 18 = 1000000000000000000 := by decide
    rw [e]
    generalize 10 ^ s.length = T at *
    generalize valS s = v at *
    generalize hq : m / 1000000000000000000 = q at *
    generalize hr : m % 1000000000000000000 = r at *
    rw [h2]
    rw [Nat.mul_add, ← Nat.add_assoc]
    congr 2
    rw [Nat.mul_comm T, Nat.mul_assoc, Nat.mul_assoc, Nat.mul_comm T q, Nat.mul_comm q T]
  · have := txt_len h hm hn
    rw [List.length_append, hl]
    omega
theorem txt_end {n m : Nat} {s : List UInt8} (h : Txt n m s) : DigS (decDigits m ++ s) ∧ valS (decDigits m ++ s) = n ∧ decDigits m ++ s ≠ [] :=
  ⟨digS_append (digS_dec m) h.dig, by rw [valS_append, valS_dec]; exact h.val, fun e => dec_ne m (List.append_eq_nil_iff.1 e).1⟩
end Go.Proofs.YtkkelelmdbemmaaDoorX
