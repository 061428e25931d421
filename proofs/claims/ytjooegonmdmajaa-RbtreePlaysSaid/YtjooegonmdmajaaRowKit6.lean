/- What the rows of rbtree share: a slice of acts that comes in. -/
import Derived.Test.YtjooegonmdmajaaRowKitC
import Derived.Test.YtjooegonmdmajaaLaw6d
set_option linter.unusedVariables false
set_option linter.unusedSimpArgs false
namespace Go.Proofs.YtjooegonmdmajaaX
open Go Go.RowKit Go.ChangeShapes Go.WideShapes Go.ChangeAt
def boolOf : Value → Bool
  | .bool b => b
  | _ => false
theorem shape_act : Try.prog.underlying 53 = some (.struct #[{ name := "Out", type := 4, offset := 0, embedded := false, tag := "", pkgPath := "", byteOffset := 0 }, { name := "X", type := 3, offset := 1, embedded := false, tag := "", pkgPath := "", byteOffset := 8 }]) := by kernel_rfl
set_option maxRecDepth 100000 in
/-- A slice of acts that came in. -/
theorem open_acts {H : Type} {enc : TypeId × Value → H} {W : World} {r : Reach} {b0 base : Nat} {spare : Nat → Bool} {held : Bool} {v : Value} {d : DataW H} {p : List MemPlace} (hv : Value.okWide Try.prog W r b0 51 v)
    (h : DataW.Trod enc Try.prog W base spare held 51 v d p) : ∃ xs : List (Bool × Int), AAt W v xs := by
  obtain ⟨a0, len, cap, rfl⟩ := okWide_slice (e := 53) (by kernel_rfl) hv
  obtain ⟨fuel, hf⟩ := h
  rcases Go.Deep.open_slice_pairs (e := 53) (by kernel_rfl) shape_act (by kernel_rfl) rfl rfl (by kernel_rfl) (by kernel_rfl) hf with ⟨hc, hx⟩ | ⟨a, len', cap', m, n, V0, V1, D0, D1, P0, P1, hc, hb, hl, hm, hmm, hx, hall⟩
  · obtain ⟨rfl, rfl, rfl⟩ : a0 = none ∧ len = 0 ∧ cap = 0 := by injection hc with h1 h2; injection h1 with h1 h2 h3; exact ⟨h1, h2, h3⟩
    exact ⟨[], none, 0, rfl, fun h => absurd rfl h⟩
  · obtain ⟨rfl, rfl, rfl⟩ : a0 = some a ∧ len = len' ∧ cap = cap' := by injection hc with h1 h2; injection h1 with h1 h2 h3; exact ⟨h1, h2, h3⟩
    have hlm : len ≤ m := by rw [hmm]; split <;> omega
    have each : ∀ i, i < len → W.cell? (a.add (i * 2)) = some (.bool (boolOf (V0 i))) ∧ W.cell? (a.add (i * 2 + 1)) = some (.int .i64 (numOf (V1 i))) := fun i hi => by
      obtain ⟨c0, c1, t0, t1⟩ := hall i (by omega)
      obtain ⟨u, hu, _⟩ := DataW.trod_bool (by kernel_rfl) t0
      obtain ⟨y, hy, _, wy⟩ := DataW.trod_int (k := .i64) (by kernel_rfl) t1
      simp only [List.cons.injEq, and_true] at hu hy
      rw [hu] at c0
      rw [hy] at c1
      rw [hu, hy]
      exact ⟨c0, c1⟩
    refine ⟨(List.range len).map fun i => (boolOf (V0 i), numOf (V1 i)), some a, cap, by simp, fun hn => ?_⟩
    have h0 : 0 < len := by
      rcases Nat.eq_zero_or_pos len with h0 | h0
      · subst h0; exact absurd rfl hn
      · exact h0
    obtain ⟨cs, E, fz, hb', hsp, _⟩ := cell_block (each 0 h0).1
    obtain ⟨ab, ao, asp⟩ := a
    rw [show (0 : Nat) * 2 = 0 from rfl] at hb' hsp
    have e0 : (⟨ab, ao, asp⟩ : Addr).add 0 = ⟨ab, ao, asp⟩ := by simp [Addr.add]
    rw [e0] at hb' hsp
    obtain rfl : asp = none := hsp
    refine ⟨ab, ao, cs.toList, E, fz, rfl, by simpa using hb', fun i x hx => ?_⟩
    rw [List.getElem?_map] at hx
    rcases Nat.lt_or_ge i len with hi | hi
    · rw [List.getElem?_range hi] at hx
      cases hx
      obtain ⟨g0, g1⟩ := each i hi
      rw [addr_add] at g0 g1
      exact ⟨by have := cell_of_block g0 hb'; simpa using this, by have := cell_of_block g1 hb'; simpa [Nat.add_assoc] using this⟩
    · rw [List.getElem?_eq_none (by simpa using hi)] at hx
      cases hx
end Go.Proofs.YtjooegonmdmajaaX
