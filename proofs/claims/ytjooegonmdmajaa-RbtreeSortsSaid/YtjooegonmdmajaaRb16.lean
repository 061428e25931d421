/- rbtree: two trees side by side; Fold of a list in order. -/
import Derived.Test.YtjooegonmdmajaaRbF2
set_option linter.unusedVariables false
set_option linter.unusedSimpArgs false
set_option linter.unusedSectionVars false
set_option maxRecDepth 100000
namespace Go.Proofs.YtjooegonmdmajaaX
open Go Go.RowKit
attribute [local irreducible] XS XC XA thenE blockE retE loopE loopS cutB cutN doneE SE
def NoInt (w : World) (F : List Nat) : Prop := ∀ b ∈ F, ∀ cs fz, w.heap[b]? ≠ some (.cells cs 3 fz)
theorem Obj6.noInt {w : World} {tb : Nat} {t : RB Int} {F : List Nat} (h : Obj6 w tb t F) : NoInt w F := by
  obtain ⟨p, fp, rfl, hT, ht, _⟩ := h
  intro b hb cs fz e
  rcases List.mem_cons.1 hb with rfl | hb
  · rw [hT] at e; cases e
  · obtain ⟨_, _, h⟩ := ht.nodes b hb
    rw [h] at e; cases e
theorem Obj6.lt {w : World} {tb : Nat} {t : RB Int} {F : List Nat} (h : Obj6 w tb t F) : ∀ b ∈ F, b < w.heap.size := by
  obtain ⟨p, fp, rfl, hT, ht, _⟩ := h
  intro b hb
  rcases List.mem_cons.1 hb with rfl | hb
  · exact lt_of_block hT
  · exact ht.nodes.lt b hb
theorem Obj6.keep {w w' : World} {tb : Nat} {t : RB Int} {F G : List Nat} (h : Obj6 w tb t F) (ho : Only G w w') (hG : NoInt w G) (hd : ∀ b ∈ F, b ∉ G) : Obj6 w' tb t F := by
  obtain ⟨p, fp, rfl, hT, ht, hn⟩ := h
  exact ⟨p, fp, rfl, ho.block hT (hd tb List.mem_cons_self), ht.keep' ho hG (fun b hb => hd b (List.mem_cons_of_mem _ hb)), hn⟩
theorem Set6.noInt {w : World} {tb : Nat} {xs : List Int} {F : List Nat} (h : Set6 w tb xs F) : NoInt w F := by obtain ⟨t, h, _⟩ := h; exact h.noInt
theorem Set6.lt {w : World} {tb : Nat} {xs : List Int} {F : List Nat} (h : Set6 w tb xs F) : ∀ b ∈ F, b < w.heap.size := by obtain ⟨t, h, _⟩ := h; exact h.lt
theorem Set6.srt {w : World} {tb : Nat} {xs : List Int} {F : List Nat} (h : Set6 w tb xs F) : RB.Srt ltI xs := by obtain ⟨t, _, _, _, h⟩ := h; exact h
theorem Set6.keep {w w' : World} {tb : Nat} {xs : List Int} {F G : List Nat} (h : Set6 w tb xs F) (ho : Only G w w') (hG : NoInt w G) (hd : ∀ b ∈ F, b ∉ G) : Set6 w' tb xs F := by
  obtain ⟨t, h1, h2, h3, h4⟩ := h
  exact ⟨t, h1.keep ho hG hd, h2, h3, h4⟩
/-- Two lists in order that hold the same are the same. -/
theorem srt_ext : ∀ {xs ys : List Int}, RB.Srt ltI xs → RB.Srt ltI ys → (∀ z, z ∈ xs ↔ z ∈ ys) → xs = ys
  | [], [], _, _, _ => rfl
  | [], y :: ys, _, _, h => by have := (h y).2 List.mem_cons_self; cases this
  | x :: xs, [], _, _, h => by have := (h x).1 List.mem_cons_self; cases this
  | x :: xs, y :: ys, hx, hy, h => by
    obtain ⟨h1, h2⟩ := List.pairwise_cons.1 hx
    obtain ⟨h3, h4⟩ := List.pairwise_cons.1 hy
    have e : x = y := by
      have a := (h x).1 List.mem_cons_self
      have b := (h y).2 List.mem_cons_self
      rcases List.mem_cons.1 a with a | a
      · exact a
      · rcases List.mem_cons.1 b with b | b
        · exact b.symm
        · have p := h3 x a
          have q := h1 y b
          simp only [ltI, decide_eq_true_eq] at p q
          omega
    subst e
    rw [srt_ext h2 h4 fun z => ?_]
    constructor
    · intro hz
      rcases List.mem_cons.1 ((h z).1 (List.mem_cons_of_mem _ hz)) with rfl | hz'
      · have := h1 _ hz; simp [ltI] at this
      · exact hz'
    · intro hz
      rcases List.mem_cons.1 ((h z).2 (List.mem_cons_of_mem _ hz)) with rfl | hz'
      · have := h3 _ hz; simp [ltI] at this
      · exact hz'
theorem mem_insS (x z : Int) (l : List Int) : z ∈ insS x l ↔ z = x ∨ z ∈ l := by
  unfold insS
  split
  · constructor
    · exact .inr
    · rintro (rfl | h)
      · assumption
      · exact h
  · exact mem_insL x z l
/-- What holds of a greater one holds of a smaller one. -/
def Down (q : Int → Bool) : Prop := ∀ a b, a < b → q b = true → q a = true
theorem fold_filter {q : Int → Bool} (hq : Down q) : ∀ t : RB Int, RB.Srt ltI t.list → RB.fold q t = t.list.filter q
  | .nil, _ => rfl
  | .node l x r c, hs => by
    obtain ⟨h1, h2, h3, h4, h5⟩ := RB.srt_node hs
    simp only [RB.fold, RB.list, List.filter_append]
    cases hx : q x
    · have e : (x :: r.list).filter q = [] := List.filter_eq_nil_iff.2 fun z hz hz2 => by
        rcases List.mem_cons.1 hz with rfl | hz
        · rw [hx] at hz2; cases hz2
        · have := h4 z hz
          simp only [ltI, decide_eq_true_eq] at this
          rw [hq x z this hz2] at hx; cases hx
      rw [cond_false, e, List.append_nil, fold_filter hq l h1]
    · have e : l.list.filter q = l.list := List.filter_eq_self.2 fun z hz => by
        have := h3 z hz
        simp only [ltI, decide_eq_true_eq] at this
        exact hq z x this hx
      rw [cond_true, e, List.filter_cons, hx, if_pos rfl, fold_filter hq r h2]
theorem filter_take {q : Int → Bool} (hq : Down q) : ∀ {l : List Int}, RB.Srt ltI l → l.filter q = l.take (l.filter q).length
  | [], _ => rfl
  | a :: l, h => by
    obtain ⟨h1, h2⟩ := List.pairwise_cons.1 h
    cases ha : q a
    · have e : (a :: l).filter q = [] := List.filter_eq_nil_iff.2 fun z hz hz2 => by
        rcases List.mem_cons.1 hz with rfl | hz
        · rw [ha] at hz2; cases hz2
        · have := h1 z hz
          simp only [ltI, decide_eq_true_eq] at this
          rw [hq a z this hz2] at ha; cases ha
      rw [e]; rfl
    · rw [List.filter_cons, ha, if_pos rfl, List.length_cons, List.take_succ_cons, ← filter_take hq h2]
theorem setFold_ret (tb : Nat) (xs : List Int) (F : List Nat) (w0 : World) (h : Set6 w0 tb xs F) (fid : Nat) (caps : List Value) (q : Int → Bool) (hd : Down q) (Inv : World → Prop) (hI : Inv w0) (hst : ∀ w, Only [] w0 w → Inv w)
    (hq : ∀ (y : Int) (w : World), Inv w → Ret Try.prog fid (Value.int .i64 y :: caps).toArray w fun v w' => v = .bool (q y) ∧ Only [] w w') (hlen : xs.length ≤ 1000000) :
    Ret Try.prog 16 #[.pointer (some ⟨tb, 0, none⟩), .func (.func fid) #[] caps.toArray] w0 fun v w' => (∃ va, v = .tuple #[va, .bool (decide (xs.filter q ≠ []))] ∧ DAt w' va (xs.filter q)) ∧ Only [] w0 w' := by
  obtain ⟨t, h1, h2, rfl, h4⟩ := h
  have := fold_ret tb t F w0 h1 fid caps q Inv hI hst hq hlen
  rw [fold_filter hd t h4] at this
  exact this
end Go.Proofs.YtjooegonmdmajaaX
