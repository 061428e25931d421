/- What the rows of wide share: a slice of two-word numbers that comes in. -/
import Derived.Test.YtjooegonmdmajaaRowKit
import Derived.Test.YtjooegonmdmajaaSum
import Derived.Deep.SlicePairs
set_option linter.unusedVariables false
set_option linter.unusedSimpArgs false
namespace Go.Proofs.YtjooegonmdmajaaX
open Go Go.RowKit Go.ChangeShapes Go.WideShapes Go.ChangeAt
def numOf : Value → Int
  | .int _ n => n
  | _ => 0
theorem cell_block {w : World} {a : Addr} {v : Value} (h : w.cell? a = some v) : ∃ cs E fz, w.heap[a.block]? = some (.cells cs E fz) ∧ a.spot = none ∧ cs[a.off]? = some v := by
  unfold World.cell? at h
  split at h
  · rename_i cs E fz hb
    split at h
    · cases h
    · rename_i hs
      exact ⟨cs, E, fz, hb, by simpa using hs, h⟩
  · cases h
theorem cell_of_block {w : World} {a : Addr} {v : Value} {cs : Array Value} {E : TypeId} {fz : Nat × Nat} (h : w.cell? a = some v) (hb : w.heap[a.block]? = some (.cells cs E fz)) : cs[a.off]? = some v := by
  obtain ⟨cs', E', fz', h1, _, h2⟩ := cell_block h
  rw [hb] at h1
  cases h1
  exact h2
theorem addr_add (b o k : Nat) : (⟨b, o, none⟩ : Addr).add k = ⟨b, o + k, none⟩ := by
  unfold Addr.add
  split <;> simp_all
theorem wide_parts {a b : Int} (h0 : -9223372036854775808 ≤ a) (h1 : a < 9223372036854775808) (h2 : 0 ≤ b) (h3 : b < 18446744073709551616) :
    InW (a * 18446744073709551616 + b) ∧ a = (a * 18446744073709551616 + b) / 18446744073709551616 ∧ b = (a * 18446744073709551616 + b) % 18446744073709551616 := by
  refine ⟨?_, by omega, by omega⟩
  unfold InW
  omega
set_option maxRecDepth 100000 in
/-- A slice of two-word numbers that came in. -/
theorem open_wides {H : Type} {enc : TypeId × Value → H} {W : World} {r : Reach} {b0 base : Nat} {spare : Nat → Bool} {held : Bool} {v : Value} {d : DataW H} {p : List MemPlace} (hv : Value.okWide Try.prog W r b0 45 v)
    (h : DataW.Trod enc Try.prog W base spare held 45 v d p) : ∃ xs : List Int, (∀ (i : Nat) (x : Int), xs[i]? = some x → InW x) ∧ xs.length ≤ 9223372036854775807 ∧ WAt W v xs := by
  obtain ⟨a0, len, cap, rfl⟩ := okWide_slice (e := 35) (by kernel_rfl) hv
  obtain ⟨fuel, hf⟩ := h
  rcases Go.Deep.open_slice_pairs (e := 35) (by kernel_rfl) shape_wide (by kernel_rfl) rfl rfl (by kernel_rfl) (by kernel_rfl) hf with ⟨hc, hx⟩ | ⟨a, len', cap', m, n, V0, V1, D0, D1, P0, P1, hc, hb, hl, hm, hmm, hx, hall⟩
  · obtain ⟨rfl, rfl, rfl⟩ : a0 = none ∧ len = 0 ∧ cap = 0 := by injection hc with h1 h2; injection h1 with h1 h2 h3; exact ⟨h1, h2, h3⟩
    exact ⟨[], fun i x hx => by simp at hx, by simp, none, 0, rfl, fun h => absurd rfl h⟩
  · obtain ⟨rfl, rfl, rfl⟩ : a0 = some a ∧ len = len' ∧ cap = cap' := by injection hc with h1 h2; injection h1 with h1 h2 h3; exact ⟨h1, h2, h3⟩
    have hlm : len ≤ m := by rw [hmm]; split <;> omega
    have each : ∀ i, i < len → InW (numOf (V0 i) * 18446744073709551616 + numOf (V1 i)) ∧ W.cell? (a.add (i * 2)) = some (.int .i64 ((numOf (V0 i) * 18446744073709551616 + numOf (V1 i)) / 18446744073709551616)) ∧ W.cell? (a.add (i * 2 + 1)) = some (.int .u64 ((numOf (V0 i) * 18446744073709551616 + numOf (V1 i)) % 18446744073709551616)) := fun i hi => by
      obtain ⟨c0, c1, t0, t1⟩ := hall i (by omega)
      obtain ⟨u, hu, _, wu⟩ := DataW.trod_int (k := .i64) (by kernel_rfl) t0
      obtain ⟨y, hy, _, wy⟩ := DataW.trod_int (k := .u64) (by kernel_rfl) t1
      simp only [List.cons.injEq, and_true] at hu hy
      rw [hu] at c0
      rw [hy] at c1
      rw [hu, hy]
      have e1 := int_of wu
      have e2 := int_of wy
      have m1 : IntKind.i64.min = -9223372036854775808 := rfl
      have m2 : IntKind.i64.max = 9223372036854775807 := rfl
      have m3 : IntKind.u64.min = 0 := rfl
      have m4 : IntKind.u64.max = 18446744073709551615 := rfl
      obtain ⟨w1, w2, w3⟩ := wide_parts (a := u) (b := y) (by omega) (by omega) (by omega) (by omega)
      show InW (u * 18446744073709551616 + y) ∧ W.cell? (a.add (i * 2)) = some (.int .i64 ((u * 18446744073709551616 + y) / 18446744073709551616)) ∧ W.cell? (a.add (i * 2 + 1)) = some (.int .u64 ((u * 18446744073709551616 + y) % 18446744073709551616))
      rw [← w2, ← w3]
      exact ⟨w1, c0, c1⟩
    have hmx : len ≤ 9223372036854775807 := by unfold maxLen at hm; omega
    refine ⟨(List.range len).map fun i => numOf (V0 i) * 18446744073709551616 + numOf (V1 i), fun i x hx => ?_, by simpa using hmx, some a, cap, by simp, fun hn => ?_⟩
    · rw [List.getElem?_map] at hx
      rcases Nat.lt_or_ge i len with hi | hi
      · rw [List.getElem?_range hi] at hx
        cases hx
        exact (each i hi).1
      · rw [List.getElem?_eq_none (by simpa using hi)] at hx
        cases hx
    · have h0 : 0 < len := by
        rcases Nat.eq_zero_or_pos len with h0 | h0
        · subst h0; exact absurd rfl hn
        · exact h0
      obtain ⟨cs, E, fz, hb', hsp, _⟩ := cell_block (each 0 h0).2.1
      obtain ⟨ab, ao, asp⟩ := a
      rw [show (0 : Nat) * 2 = 0 from rfl] at hb' hsp
      have e0 : (⟨ab, ao, asp⟩ : Addr).add 0 = ⟨ab, ao, asp⟩ := by simp [Addr.add]
      rw [e0] at hb' hsp
      obtain rfl : asp = none := hsp
      refine ⟨ab, ao, cs.toList, E, fz, rfl, by simpa using hb', fun i x hx => ?_⟩
      rw [List.getElem?_map] at hx
      rcases Nat.lt_or_ge i len with hi | hi
      · rw [List.getElem?_range hi] at hx
        cases hx
        obtain ⟨_, g0, g1⟩ := each i hi
        rw [addr_add] at g0 g1
        exact ⟨by have := cell_of_block g0 hb'; simpa using this, by have := cell_of_block g1 hb'; simpa [Nat.add_assoc] using this⟩
      · rw [List.getElem?_eq_none (by simpa using hi)] at hx
        cases hx
end Go.Proofs.YtjooegonmdmajaaX
