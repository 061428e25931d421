/- slices.Sort, Reverse, Compact at numbers, as contracts of this calculus. -/
import Derived.Test.YtjooegonmdmajaaSort0
set_option linter.unusedVariables false
set_option linter.unusedSimpArgs false
set_option maxRecDepth 100000
namespace Go.Proofs.YtjooegonmdmajaaX
open Go Go.RowKit Go.Sort
attribute [local irreducible] XS XC XA thenE blockE retE loopE loopS cutB cutN doneE SE
theorem ret_of_calls {P : Program} {f : FuncId} {args : Array Value} {w : World} {Q : Value → World → Prop} (he : entersB P f = true) (h : Calls P f args w fun e w' => ∃ v, e = .returned v ∧ Q v w') : Ret P f args w Q := .inl ⟨enters_run he args w, h⟩
theorem row_world {w : World} {g q : Nat} {cur : Array Value} {e : TypeId} {fz : Nat × Nat} (d : Array Int) (os : Array Obj) (hg : w.heap[g]? = some (.cells cur e fz)) :
    (grow (putRow (Value.int .i64) (Sort.ahead w q) g 0 d) os).heap[g]? = some (.cells (putCells (Value.int .i64) 0 d cur) e fz) ∧ Only [g] w (grow (putRow (Value.int .i64) (Sort.ahead w q) g 0 d) os) := by
  have hlt := lt_of_block hg
  have hsz : (w.heap.modify g (onCells (putCells (Value.int .i64) 0 d))).size = w.heap.size := by simp
  have key : ∀ k, k < w.heap.size → (grow (putRow (Value.int .i64) (Sort.ahead w q) g 0 d) os).heap[k]? = (w.heap.modify g (onCells (putCells (Value.int .i64) 0 d)))[k]? := fun k hk => by
    show (w.heap.modify g (onCells (putCells (Value.int .i64) 0 d)) ++ os)[k]? = _
    rw [Array.getElem?_append_left (by rw [hsz]; exact hk)]
  refine ⟨?_, rfl, rfl, rfl, ?_, fun k hk hn => ?_⟩
  · rw [key g hlt, Array.getElem?_modify, if_pos rfl, hg]
    rfl
  · show w.heap.size ≤ (w.heap.modify g (onCells (putCells (Value.int .i64) 0 d)) ++ os).size
    rw [Array.size_append, hsz]
    exact Nat.le_add_right _ _
  · rw [key k hk, Array.getElem?_modify, if_neg (fun e => hn (by rw [e]; exact List.mem_cons_self))]
theorem put_take {cur : Array Value} {d : List Int} (h : d.length ≤ cur.size) : (putCells (Value.int .i64) 0 d.toArray cur).toList.take d.length = ints d := by
  apply List.ext_getElem?
  intro i
  rw [List.getElem?_take]
  by_cases hi : i < d.length
  · rw [if_pos hi]
    have h1 : i < cur.size := by omega
    simp [putCells, ints, hi, h1]
  · rw [if_neg hi, List.getElem?_eq_none (by simp [ints]; omega)]
theorem put_len {cur : Array Value} {d : Array Int} : (putCells (Value.int .i64) 0 d cur).toList.length = cur.size := by simp [putCells]
theorem SlV.holds {w : World} {g cap : Nat} {cur : List Value} {xs : List Int} (hg : w.heap[g]? = some (.cells cur.toArray 3 (0, 0))) (ht : cur.take (xs.length * 1) = ints xs) : Holds (Value.int .i64) w g 0 xs.toArray := by
  intro j hj
  have hj' : j < xs.length := by simpa using hj
  have h1 : cur[j]? = some (.int .i64 xs[j]) := by
    have h2 : (ints xs)[j]? = some (.int .i64 xs[j]) := by simp [ints, hj']
    rw [← ht, List.getElem?_take] at h2
    split at h2
    · exact h2
    · cases h2
  refine ⟨?_, ?_⟩
  · simp [World.cell?, hg, h1, hj']
  · simp [World.frozen?, hg]
/-- What a call made of one's own slice. -/
theorem SlV.put {w w' : World} {v : Value} {xs ys : List Int} {G : List Nat} {g cap : Nat} {cur : List Value} {q : Nat} {os : Array Obj} (hw : w' = grow (putRow (Value.int .i64) (Sort.ahead w q) g 0 ys.toArray) os) (hl : ys.length = xs.length) (h3 : xs.length ≤ cap) (h4 : cur.length = cap * 1) (hg : w.heap[g]? = some (.cells cur.toArray 3 (0, 0))) :
    SlV w' 3 1 (.slice (some ⟨g, 0, none⟩) xs.length cap) ys.length (ints ys) [g] ∧ Only [g] w w' := by
  obtain ⟨k1, k2⟩ := row_world (q := q) ys.toArray os hg
  subst hw
  refine ⟨.inr ⟨g, cap, (putCells (Value.int .i64) 0 ys.toArray cur.toArray).toList, by rw [hl], rfl, by omega, by rw [put_len]; simpa using h4, by simp [ints], ?_, by simpa using k1⟩, k2⟩
  rw [Nat.mul_one]
  exact put_take (by simp; omega)
theorem sort6_ret (v : Value) (xs : List Int) (G : List Nat) (hm : xs.length ≤ 1000000) (w0 : World) (hS : SlV w0 3 1 v xs.length (ints xs) G) : Ret Try.prog 55 #[v] w0 fun _ w' => (SlV w' 3 1 v xs.length (ints (xs.mergeSort fun x y => decide (x ≤ y))) G) ∧ Only G w0 w' := by
  have hl : (xs.mergeSort fun x y => decide (x ≤ y)).length = xs.length := List.length_mergeSort xs
  rcases id hS with ⟨rfl, h2, h3, rfl⟩ | ⟨g, cap, cur, rfl, rfl, h3, h4, h5, h6, hg⟩
  · obtain rfl := List.length_eq_zero_iff.1 h2
    refine ret_of_calls (by kernel_rfl) ((Any.slices_Sort_int_none Try.laysSort none 0 w0).mono fun e w' ⟨he, hw⟩ => ?_)
    subst he hw
    exact ⟨_, rfl, .inl ⟨rfl, rfl, by simp [ints], rfl⟩, Only.refl _ _⟩
  · refine ret_of_calls (by kernel_rfl) ((Any.slices_Sort_int Try.laysSort g 0 cap xs w0 (SlV.holds (cap := cap) hg h6) (lt_of_block hg) (by omega)).mono fun e w' ⟨he, q, os, hw⟩ => ?_)
    obtain ⟨k1, k2⟩ := SlV.put (xs := xs) (v := .slice none 0 0) (G := []) hw hl h3 h4 hg
    rw [hl] at k1
    exact ⟨_, he, k1, k2⟩
theorem reverse6_ret (v : Value) (xs : List Int) (G : List Nat) (hm : xs.length ≤ 1000000) (w0 : World) (hS : SlV w0 3 1 v xs.length (ints xs) G) : Ret Try.prog 56 #[v] w0 fun _ w' => (SlV w' 3 1 v xs.length (ints xs.reverse) G) ∧ Only G w0 w' := by
  have hl : xs.reverse.length = xs.length := List.length_reverse
  rcases id hS with ⟨rfl, h2, h3, rfl⟩ | ⟨g, cap, cur, rfl, rfl, h3, h4, h5, h6, hg⟩
  · obtain rfl := List.length_eq_zero_iff.1 h2
    refine ret_of_calls (by kernel_rfl) ((Any.slices_Reverse_int_empty Try.laysReverse none 0 w0).mono fun e w' ⟨he, hw⟩ => ?_)
    subst he hw
    exact ⟨_, rfl, .inl ⟨rfl, rfl, rfl, rfl⟩, Only.refl _ _⟩
  · refine ret_of_calls (by kernel_rfl) ((Any.slices_Reverse_int Try.laysReverse g 0 cap xs w0 (SlV.holds (cap := cap) hg h6) (by omega)).mono fun e w' ⟨he, q, hw⟩ => ?_)
    obtain ⟨k1, k2⟩ := SlV.put (w' := w') (q := q) (xs := xs) (v := .slice none 0 0) (G := []) (os := #[]) (by rw [hw, grow_empty]) hl h3 h4 hg
    rw [hl] at k1
    exact ⟨_, he, k1, k2⟩
theorem compact6_ret (v : Value) (xs : List Int) (G : List Nat) (hm : xs.length ≤ 1000000) (hc : (Lib.compact xs).length ≤ xs.length) (w0 : World) (hS : SlV w0 3 1 v xs.length (ints xs) G) : Ret Try.prog 57 #[v] w0 fun v' w' => DAt w' v' (Lib.compact xs) ∧ Only G w0 w' := by
  rcases id hS with ⟨rfl, h2, h3, rfl⟩ | ⟨g, cap, cur, rfl, rfl, h3, h4, h5, h6, hg⟩
  · obtain rfl := List.length_eq_zero_iff.1 h2
    refine ret_of_calls (by kernel_rfl) ((Any.slices_Compact_int_empty Try.laysCompact none 0 w0).mono fun e w' ⟨he, hw⟩ => ?_)
    subst he hw
    exact ⟨_, rfl, ⟨none, 0, rfl, fun h => absurd rfl h⟩, Only.refl _ _⟩
  · refine ret_of_calls (by kernel_rfl) ((Any.slices_Compact_int Try.laysCompact g 0 cap xs w0 (SlV.holds (cap := cap) hg h6) (by omega) h3).mono fun e w' ⟨he, q, hw⟩ => ?_)
    obtain ⟨k1, k2⟩ := SlV.put (w' := w') (q := q) (xs := xs) (ys := Lib.compact xs ++ List.replicate (xs.length - (Lib.compact xs).length) 0) (v := .slice none 0 0) (G := []) (os := #[]) (by rw [hw, grow_empty]) (by simp; omega) h3 h4 hg
    have k3 : (Lib.compact xs ++ List.replicate (xs.length - (Lib.compact xs).length) 0).length = xs.length := by simp; omega
    refine ⟨_, he, ?_, k2⟩
    have k4 := SlV.dat k1
    rw [k3] at k1
    obtain ⟨ad, cp, e1, hd⟩ := k4
    injection e1 with e2 e3 e4
    subst e2 e4
    refine ⟨_, _, rfl, fun hn => ?_⟩
    obtain ⟨b, off, cs, fz, g1, g2, g3, g4⟩ := hd (fun h => hn (List.append_eq_nil_iff.1 h).1)
    exact ⟨b, off, cs, fz, g1, by omega, g3, fun i d hi => g4 i d (by rw [List.getElem?_append_left (List.getElem?_eq_some_iff.1 hi).1]; exact hi)⟩
end Go.Proofs.YtjooegonmdmajaaX
