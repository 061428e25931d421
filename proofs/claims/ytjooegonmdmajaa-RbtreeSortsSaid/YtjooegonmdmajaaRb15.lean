/- rbtree: a tree as a list in order. -/
import Derived.Test.YtjooegonmdmajaaRb14
set_option linter.unusedVariables false
set_option linter.unusedSimpArgs false
set_option linter.unusedSectionVars false
set_option maxRecDepth 100000
namespace Go.Proofs.YtjooegonmdmajaaX
open Go Go.RowKit
/-- A tree that holds these numbers, in order. -/
def Set6 (w : World) (tb : Nat) (xs : List Int) (F : List Nat) : Prop := ∃ t, Obj6 w tb t F ∧ RB.Good t ∧ t.list = xs ∧ RB.Srt ltI xs
theorem Set6.only {w w' : World} {tb : Nat} {xs : List Int} {F : List Nat} (h : Set6 w tb xs F) (ho : Only [] w w') : Set6 w' tb xs F := by
  obtain ⟨t, h1, h2, h3, h4⟩ := h
  exact ⟨t, h1.only ho, h2, h3, h4⟩
def insS (x : Int) (xs : List Int) : List Int := if x ∈ xs then xs else RB.insL ltI x xs
theorem mem_insL (x z : Int) : ∀ l : List Int, z ∈ RB.insL ltI x l ↔ z = x ∨ z ∈ l
  | [] => by simp [RB.insL]
  | y :: l => by
    simp only [RB.insL]
    cases ltI x y
    · simp only [cond_false, List.mem_cons, mem_insL x z l]
      constructor
      · rintro (h | h | h)
        · exact .inr (.inl h)
        · exact .inl h
        · exact .inr (.inr h)
      · rintro (h | h | h)
        · exact .inr (.inl h)
        · exact .inl h
        · exact .inr (.inr h)
    · simp
theorem insL_srt {x : Int} : ∀ {l : List Int}, RB.Srt ltI l → x ∉ l → RB.Srt ltI (RB.insL ltI x l)
  | [], _, _ => by simp [RB.insL, RB.Srt]
  | y :: l, hs, hx => by
    obtain ⟨h1, h2⟩ := List.pairwise_cons.1 hs
    simp only [List.mem_cons, not_or] at hx
    simp only [RB.insL]
    cases hxy : ltI x y
    · rw [cond_false]
      refine List.pairwise_cons.2 ⟨fun z hz => ?_, insL_srt h2 hx.2⟩
      rcases (mem_insL x z l).1 hz with rfl | hz
      · simp only [ltI, decide_eq_false_iff_not, decide_eq_true_eq] at *
        have := hx.1
        omega
      · exact h1 z hz
    · rw [cond_true]
      refine List.pairwise_cons.2 ⟨fun z hz => ?_, hs⟩
      rcases List.mem_cons.1 hz with rfl | hz
      · exact hxy
      · exact ordI.tr x y z trivial trivial trivial hxy (h1 z hz)
theorem insS_srt {x : Int} {l : List Int} (h : RB.Srt ltI l) : RB.Srt ltI (insS x l) := by
  unfold insS
  split
  · exact h
  · exact insL_srt h ‹_›
theorem insL_len (x : Int) : ∀ l : List Int, (RB.insL ltI x l).length = l.length + 1
  | [] => rfl
  | y :: l => by
    simp only [RB.insL]
    cases ltI x y
    · simp [insL_len x l]
    · simp
theorem insS_len (x : Int) (l : List Int) : (insS x l).length ≤ l.length + 1 := by
  unfold insS
  split
  · omega
  · rw [insL_len]; exact Nat.le_refl _
theorem sans_le (x : Int) (l : List Int) : (RB.sans x l).length ≤ l.length := List.length_filter_le _ _
theorem has_mem {x : Int} {t : RB Int} (h : RB.Srt ltI t.list) : RB.has ltI x t = decide (x ∈ t.list) := by
  have hmem := RB.has_iff ordI (x := x) trivial t h (fun _ _ => trivial)
  cases hq : RB.has ltI x t
  · exact (decide_eq_false (fun h => by rw [hmem.2 h] at hq; cases hq)).symm
  · exact (decide_eq_true (hmem.1 hq)).symm
theorem insert_list {x : Int} {t : RB Int} (h : RB.Srt ltI t.list) : (RB.insert t x).list = insS x t.list := by
  unfold RB.insert insS
  rw [has_mem h]
  by_cases hx : x ∈ t.list
  · rw [decide_eq_true hx, cond_true, if_pos hx]
  · rw [decide_eq_false hx, cond_false, if_neg hx, RB.list_blacken, RB.list_ins ordI trivial t h (fun _ _ => trivial)]
theorem setNew_ret (w0 : World) : Ret Try.prog 14 #[] w0 fun v w' => ∃ tb F, v = .pointer (some ⟨tb, 0, none⟩) ∧ Set6 w' tb [] F ∧ (∀ k ∈ F, w0.heap.size ≤ k) ∧ Only [] w0 w' :=
  (rbNew_ret w0).mono fun v w' ⟨tb, F, h1, h2, h3, h4⟩ => ⟨tb, F, h1, ⟨_, h2, RB.Good.nil, rfl, List.Pairwise.nil⟩, h3, h4⟩
theorem setInsert_ret (tb : Nat) (xs : List Int) (F : List Nat) (x : Int) (w0 : World) (h : Set6 w0 tb xs F) (hlen : xs.length + 1 ≤ 1000000) :
    Ret Try.prog 15 #[.pointer (some ⟨tb, 0, none⟩), .int .i64 x] w0 fun v w' => v = .bool (!decide (x ∈ xs)) ∧ ∃ F', Set6 w' tb (insS x xs) F' ∧ (∀ k ∈ F', k ∈ F ∨ w0.heap.size ≤ k) ∧ Only F w0 w' := by
  obtain ⟨t, h1, h2, rfl, h4⟩ := h
  refine (rbInsert_ret tb t F x w0 h1 hlen).mono fun v w' ⟨e, F', k1, k2, k3⟩ => ⟨by rw [e, has_mem h4], F', ⟨_, k1, ?_, insert_list h4, insS_srt h4⟩, k2, k3⟩
  unfold RB.insert
  cases RB.has ltI x t
  · exact h2.ins
  · exact h2
theorem setDelete_ret (tb : Nat) (xs : List Int) (F : List Nat) (x : Int) (w0 : World) (h : Set6 w0 tb xs F) (hlen : xs.length ≤ 1000000) :
    Ret Try.prog 34 #[.pointer (some ⟨tb, 0, none⟩), .int .i64 x] w0 fun v w' => v = .bool (decide (x ∈ xs)) ∧ ∃ F', Set6 w' tb (RB.sans x xs) F' ∧ (∀ k ∈ F', k ∈ F ∨ w0.heap.size ≤ k) ∧ Only F w0 w' := by
  obtain ⟨t, h1, h2, rfl, h4⟩ := h
  exact (rbDelete_ret tb t F x w0 h1 h2 h4 hlen).mono fun v w' ⟨e, t', F', k1, k2, k3, k4, k5⟩ => ⟨e, F', ⟨t', k1, k2, k3, sans_srt h4⟩, k4, k5⟩
theorem setDepth_ret (tb : Nat) (xs : List Int) (F : List Nat) (w0 : World) (h : Set6 w0 tb xs F) (hlen : xs.length ≤ 1000000) :
    Ret Try.prog 35 #[.pointer (some ⟨tb, 0, none⟩)] w0 fun v w' => (∃ d : Nat, v = .int .i64 (d : Nat) ∧ 2 ^ ((d + 1) / 2) ≤ xs.length + 1 ∧ d ≤ 1000000 ∧ (xs = [] → d = 0)) ∧ Only [] w0 w' := by
  obtain ⟨t, h1, h2, rfl, h4⟩ := h
  refine (rbDepth_ret tb t F w0 h1 hlen).mono fun v w' ⟨e, k⟩ => ⟨⟨_, e, h2.depth, Nat.le_trans (RB.depth_le t) hlen, fun h => ?_⟩, k⟩
  have := RB.depth_le t
  rw [h] at this
  exact Nat.le_zero.1 this
theorem setLen_ret (tb : Nat) (xs : List Int) (F : List Nat) (w0 : World) (h : Set6 w0 tb xs F) :
    Ret Try.prog 23 #[.pointer (some ⟨tb, 0, none⟩)] w0 fun v w' => v = .int .i64 (xs.length : Nat) ∧ Only [] w0 w' := by
  obtain ⟨t, h1, h2, rfl, h4⟩ := h
  exact rbLen_ret tb t F w0 h1
theorem setAll_ret (tb : Nat) (xs : List Int) (F : List Nat) (w0 : World) (h : Set6 w0 tb xs F) (hlen : xs.length ≤ 1000000) :
    Ret Try.prog 21 #[.pointer (some ⟨tb, 0, none⟩)] w0 fun v w' => DAt w' v xs ∧ Only [] w0 w' := by
  obtain ⟨t, h1, h2, rfl, h4⟩ := h
  exact rbAll_ret tb t F w0 h1 hlen
theorem setHas_ret (tb : Nat) (xs : List Int) (F : List Nat) (x : Int) (w0 : World) (h : Set6 w0 tb xs F) :
    Ret Try.prog 53 #[.pointer (some ⟨tb, 0, none⟩), .int .i64 x] w0 fun v w' => v = .bool (decide (x ∈ xs)) ∧ Only [] w0 w' := by
  obtain ⟨t, ⟨p, fp, rfl, h5, h6, h7⟩, h2, rfl, h4⟩ := h
  exact (has_ret tb p _ t fp x w0 h5 h6).mono fun v w' ⟨e, k⟩ => ⟨by rw [e, has_mem h4], k⟩
end Go.Proofs.YtjooegonmdmajaaX
