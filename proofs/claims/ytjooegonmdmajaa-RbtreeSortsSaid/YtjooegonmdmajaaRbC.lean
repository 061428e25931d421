/- Plain: left-leaning red-black trees: deletion keeps the order and the balance. No program in sight. -/
import Derived.Test.YtjooegonmdmajaaRbP
set_option linter.unusedVariables false
set_option linter.unusedSimpArgs false
namespace Go.Proofs.YtjooegonmdmajaaX
namespace RB
variable {α : Type}
def isNil : RB α → Bool
  | nil => true
  | node _ _ _ _ => false
def both : RB α → Bool
  | node (node _ _ _ _) _ (node _ _ _ _) _ => true
  | _ => false
def setR : RB α → RB α → RB α
  | nil, _ => nil
  | node l x _ c, r => node l x r c
def redLeft (t : RB α) : RB α := bif (flip t).right.left.red then flip (toLeft (setR (flip t) (toRight (flip t).right))) else flip t
def redRight (t : RB α) : RB α := bif (flip t).left.left.red then flip (toRight (flip t)) else flip t
/-- Down to the left: the tree in which the way goes on. -/
def downL (t : RB α) : Option (RB α) := bif !t.left.red && !t.left.left.red then (bif both t then some (redLeft t) else none) else some t
def downR (t : RB α) : Option (RB α) := bif !t.right.red && !t.right.left.red then (bif both t then some (redRight t) else none) else some t
def least : RB α → Option α
  | nil => none
  | node nil x _ _ => some x
  | node (node a y b c) _ _ _ => least (node a y b c)
def cutMin : Nat → RB α → Option (RB α)
  | 0, _ => none
  | k + 1, t => bif t.isNil then none else bif t.left.isNil then some nil else
    match downL t with
    | some (node l x r c) => (cutMin k l).map fun l' => mend (node l' x r c)
    | _ => none
def cut (lt : α → α → Bool) (x : α) : Nat → RB α → Option (RB α)
  | 0, _ => none
  | _ + 1, nil => none
  | k + 1, node l y r c => bif lt x y then
      (bif l.isNil then none else
        match downL (node l y r c) with
        | some (node l1 y1 r1 c1) => (cut lt x k l1).map fun l' => mend (node l' y1 r1 c1)
        | _ => none)
    else bif (bif l.red then toRight (node l y r c) else node l y r c).right.isNil then some nil else
      match downR (bif l.red then toRight (node l y r c) else node l y r c) with
      | some (node l2 y2 r2 c2) => bif lt y2 x then (cut lt x k r2).map fun r' => mend (node l2 y2 r' c2)
          else match least r2 with
            | some m => (cutMin k r2).map fun r' => mend (node l2 m r' c2)
            | none => none
      | _ => none
theorem list_setR : ∀ (t r : RB α), t.right.list = r.list → (setR t r).list = t.list
  | nil, r, h => rfl
  | node l x r' c, r, h => by simp only [setR, list]; rw [← h]; rfl
theorem list_redLeft (t : RB α) : (redLeft t).list = t.list := by
  unfold redLeft
  cases (flip t).right.left.red
  · rw [cond_false, list_flip]
  · rw [cond_true, list_flip, list_toLeft, list_setR _ _ (list_toRight _).symm, list_flip]
theorem list_redRight (t : RB α) : (redRight t).list = t.list := by
  unfold redRight
  cases (flip t).left.left.red
  · rw [cond_false, list_flip]
  · rw [cond_true, list_flip, list_toRight, list_flip]
theorem least_list : ∀ t : RB α, least t = t.list.head?
  | nil => rfl
  | node nil x _ _ => rfl
  | node (node a y b c) x r d => by
    have := least_list (node a y b c)
    simp only [least, list] at *
    rw [this]
    cases h : a.list with
    | nil => simp
    | cons u v => simp
theorem least_cons {t : RB α} (h : t.isNil = false) : ∃ m, least t = some m ∧ t.list = m :: t.list.tail := by
  rw [least_list]
  cases hl : t.list with
  | nil => cases t with
    | nil => cases h
    | node l x r c => simp [list] at hl
  | cons m l => exact ⟨m, rfl, rfl⟩
theorem mend_id {l r : RB α} {x : α} {c : Bool} (h1 : l.red = false) (h2 : r.red = false) : mend (node l x r c) = node l x r c := by
  simp [mend, mend1, mend2, mend3, left_node, right_node, red_node, h1, h2]
theorem mendL_id {l r : RB α} {x : α} {c : Bool} {h : Nat} (hl : Ok l h) (h2 : r.red = false) : mend (node l x r c) = node l x r c := by
  have hlr : (l.red && l.left.red) = false := by
    cases hc : l.red
    · rfl
    · rw [red_left_false hl hc]; rfl
  simp [mend, mend1, mend2, mend3, left_node, right_node, red_node, h2, hlr]
/-- A black node with a black left child stays black. -/
theorem mendR_stays {l r : RB α} {y : α} {h : Nat} (hr : Ok r h) (hl : l.red = false) : (mend (node l y r false)).red = false := by
  cases hc : r.red
  · rw [mend_id hl hc]; rfl
  · obtain ⟨rl, z, rr, rfl⟩ := red_true hc
    obtain ⟨p1, p2, p3, p4⟩ := hr.inv_red
    have : mend (node l y (node rl z rr true) false) = node (node l y rl true) z rr false := by
      simp [mend, mend1, mend2, mend3, left_node, right_node, red_node, toLeft, hl, p4]
    rw [this]; rfl
theorem black_zero {t : RB α} (k : Ok t 0) (h : t.red = false) : t = nil := by
  cases k with
  | nil => rfl
  | red a b c d => cases h
theorem black_succ {t : RB α} {h : Nat} (k : Ok t (h + 1)) (hr : t.red = false) : ∃ l x r, t = node l x r false ∧ Ok l h ∧ Ok r h ∧ r.red = false := by
  cases k with
  | black a b c => exact ⟨_, _, _, rfl, a, b, c⟩
  | red a b c d => cases hr
theorem tail_append {A B : List α} {y : α} (h : A ≠ []) : (A ++ y :: B).tail = A.tail ++ y :: B := by cases A with
  | nil => exact absurd rfl h
  | cons a A => rfl
theorem tail_mid (A B C : List α) (y : α) : ((A ++ y :: B) ++ C).tail = (A ++ y :: B).tail ++ C := by cases A <;> simp
theorem list_ne {t : RB α} (h : t.isNil = false) : t.list ≠ [] := by
  cases t with
  | nil => cases h
  | node l x r c => simp [list]
/-- What comes out of a cut: as high, black where it was black. -/
structure Cut (t t' : RB α) (h : Nat) (L : List α) : Prop where
  ok : Ok t' h
  black : t.red = false → t'.red = false
  list : t'.list = L
theorem cutMin_ok : ∀ (k : Nat) (t : RB α) (h : Nat), Ok t h → t.isNil = false → (t.red = true ∨ t.left.red = true) → t.list.length ≤ k → ∃ t', cutMin k t = some t' ∧ Cut t t' h t.list.tail
  | 0, t, h, hk, hn, _, hl => by
    have := list_ne hn
    cases ht : t.list with
    | nil => exact absurd ht this
    | cons a b => rw [ht] at hl; simp at hl
  | k + 1, nil, h, hk, hn, _, hl => by cases hn
  | k + 1, node l x r true, h, hk, hn, _, hl => by
    obtain ⟨a, b, c, d⟩ := hk.inv_red
    simp only [list, List.length_append, List.length_cons] at hl
    cases h with
    | zero =>
      obtain rfl := black_zero a c
      obtain rfl := black_zero b d
      exact ⟨nil, rfl, .nil, (fun h => by cases h), rfl⟩
    | succ h =>
      obtain ⟨ll, y, lr, rfl, a1, a2, a3⟩ := black_succ a c
      obtain ⟨rl, z, rr, rfl, b1, b2, b3⟩ := black_succ b d
      simp only [list, List.length_append, List.length_cons] at hl
      cases hc : ll.red
      · cases hd : rl.red
        · obtain ⟨t', e, q⟩ := cutMin_ok k (node ll y lr true) h (.red a1 a2 hc a3) rfl (.inl rfl) (by simp only [list, List.length_append, List.length_cons]; omega)
          refine ⟨mend (node t' x (node rl z rr true) false), ?_, mendR_black q.ok (.red b1 b2 hd b3), (fun h => by cases h), ?_⟩
          · simp [cutMin, isNil, downL, both, redLeft, flip, left_node, right_node, red_node, hc, hd, e]
          · rw [list_mend]
            simp only [list, q.list]
            rw [tail_mid]
        · obtain ⟨rll, u, rlr, rfl⟩ := red_true hd
          obtain ⟨e1, e2, e3, e4⟩ := b1.inv_red
          obtain ⟨t', e, q⟩ := cutMin_ok k (node (node ll y lr true) x rll false) (h + 1) (.black (.red a1 a2 hc a3) e1 e3) rfl (.inr rfl) (by simp only [list, List.length_append, List.length_cons] at *; omega)
          have q2 := q.black rfl
          refine ⟨node t' u (node rlr z rr false) true, ?_, .red q.ok (.black e2 b2 b3) q2 rfl, (fun h => by cases h), ?_⟩
          · have := mend_id (l := t') (r := node rlr z rr false) (x := u) (c := true) q2 rfl
            simp [cutMin, isNil, downL, both, redLeft, flip, toLeft, toRight, setR, left_node, right_node, red_node, hc, e, this]
          · simp only [list, q.list]
            rw [tail_mid, tail_mid]
            simp
      · obtain ⟨t', e, q⟩ := cutMin_ok k (node ll y lr false) (h + 1) (.black a1 a2 a3) rfl (.inr hc) (by simp only [list, List.length_append, List.length_cons]; omega)
        have q2 := q.black rfl
        refine ⟨node t' x (node rl z rr false) true, ?_, .red q.ok (.black b1 b2 b3) q2 rfl, (fun h => by cases h), ?_⟩
        · have := mend_id (l := t') (r := node rl z rr false) (x := x) (c := true) q2 rfl
          simp [cutMin, isNil, downL, left_node, right_node, red_node, hc, e, this]
        · simp only [list, q.list]
          rw [tail_mid]
  | k + 1, node l x r false, h, hk, hn, hc, hl => by
    obtain ⟨h, rfl, a, b, c⟩ := hk.inv_black
    have hlr : l.red = true := by rcases hc with hc | hc; cases hc; exact hc
    simp only [list, List.length_append, List.length_cons] at hl
    obtain ⟨ll, y, lr, rfl⟩ := red_true hlr
    obtain ⟨t', e, q⟩ := cutMin_ok k (node ll y lr true) h a rfl (.inl rfl) (by omega)
    have e2 := mendL_id (x := x) (c := false) q.ok c
    refine ⟨node t' x r false, ?_, .black q.ok b c, fun _ => rfl, ?_⟩
    · simp [cutMin, isNil, downL, left_node, right_node, red_node, e, e2]
    · simp only [list, q.list]
      rw [tail_mid]
end RB
end Go.Proofs.YtjooegonmdmajaaX
