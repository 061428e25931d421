/- What the rows of rbtree share: a slice of numbers that comes in. -/
import Derived.Test.YtjooegonmdmajaaRowKitC
import Derived.Test.YtjooegonmdmajaaLaw6f
set_option linter.unusedVariables false
set_option linter.unusedSimpArgs false
namespace Go.Proofs.YtjooegonmdmajaaX
open Go Go.RowKit Go.ChangeShapes Go.WideShapes Go.ChangeAt
set_option maxRecDepth 100000 in
/-- A slice of numbers that came in. -/
theorem open_nums {H : Type} {enc : TypeId × Value → H} {W : World} {r : Reach} {b0 base : Nat} {spare : Nat → Bool} {held : Bool} {v : Value} {d : DataW H} {p : List MemPlace} (hv : Value.okWide Try.prog W r b0 22 v)
    (h : DataW.Trod enc Try.prog W base spare held 22 v d p) : ∃ xs : List Int, LAt W v xs := by
  obtain ⟨a0, len, cap, rfl⟩ := okWide_slice (e := 3) (by kernel_rfl) hv
  obtain ⟨fuel, hf⟩ := h
  rcases open_ints (e := 3) (k := .i64) (by kernel_rfl) (by kernel_rfl) (by kernel_rfl) hf with ⟨hc, hx⟩ | ⟨a, len', cap', zs, hc, hb, hl, hm, hlen, hx, hall, hwf⟩
  · obtain ⟨rfl, rfl, rfl⟩ : a0 = none ∧ len = 0 ∧ cap = 0 := by injection hc with h1 h2; injection h1 with h1 h2 h3; exact ⟨h1, h2, h3⟩
    exact ⟨[], none, 0, rfl, fun h => absurd rfl h⟩
  · obtain ⟨rfl, rfl, rfl⟩ : a0 = some a ∧ len = len' ∧ cap = cap' := by injection hc with h1 h2; injection h1 with h1 h2 h3; exact ⟨h1, h2, h3⟩
    have hlz : len ≤ zs.length := by rw [hlen]; split <;> omega
    refine ⟨zs.take len, some a, cap, by rw [List.length_take, Nat.min_eq_left hlz], fun hn => ?_⟩
    have h0 : 0 < len := by
      rcases Nat.eq_zero_or_pos len with h0 | h0
      · subst h0; exact absurd (by simp) hn
      · exact h0
    obtain ⟨cs, E, fz, hb', hsp, _⟩ := cell_block (hall 0 (by omega))
    obtain ⟨ab, ao, asp⟩ := a
    have e0 : (⟨ab, ao, asp⟩ : Addr).add 0 = ⟨ab, ao, asp⟩ := by simp [Addr.add]
    rw [e0] at hb' hsp
    obtain rfl : asp = none := hsp
    refine ⟨ab, ao, cs.toList, E, fz, rfl, by simpa using hb', fun i x hx => ?_⟩
    rw [List.getElem?_take] at hx
    split at hx
    · rename_i hi
      have g0 := hall i (by omega)
      rw [addr_add] at g0
      have := cell_of_block g0 hb'
      have e1 : zs.getD i 0 = x := by rw [List.getD_eq_getElem?_getD, hx]; rfl
      rw [e1] at this
      simpa using this
    · cases hx
end Go.Proofs.YtjooegonmdmajaaX
