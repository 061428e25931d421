/- Plain: left-leaning red-black trees: cut. No program in sight. -/
import Derived.Test.YtjooegonmdmajaaRbC
set_option linter.unusedVariables false
set_option linter.unusedSimpArgs false
set_option linter.unusedSectionVars false
namespace Go.Proofs.YtjooegonmdmajaaX
namespace RB
variable {α : Type} [DecidableEq α]
/-- All but x. -/
def sans (x : α) (l : List α) : List α := l.filter fun z => !decide (z = x)
theorem sans_append (x : α) (A B : List α) : sans x (A ++ B) = sans x A ++ sans x B := List.filter_append ..
theorem sans_none {x : α} {l : List α} (h : ∀ z ∈ l, z ≠ x) : sans x l = l := List.filter_eq_self.2 fun z hz => by simp [h z hz]
theorem sans_cons {x y : α} (h : y ≠ x) (l : List α) : sans x (y :: l) = y :: sans x l := by simp [sans, h]
theorem sans_self (x : α) (l : List α) : sans x (x :: l) = sans x l := by simp [sans]
/-- x lies in a tree in order. -/
structure In (lt : α → α → Bool) (S : α → Prop) (x : α) (l : List α) : Prop where
  srt : Srt lt l
  s : ∀ z ∈ l, S z
  mem : x ∈ l
variable {lt : α → α → Bool} {S : α → Prop} {x : α}
theorem lt_ne (ho : OrdOn lt S) {a b : α} (ha : S a) (h : lt a b = true) : a ≠ b := fun e => by
  subst e
  rw [ho.irr a ha] at h
  cases h
theorem In.left (ho : OrdOn lt S) {L R : List α} {y : α} (h : In lt S x (L ++ y :: R)) (hxy : lt x y = true) : In lt S x L ∧ sans x (L ++ y :: R) = sans x L ++ y :: R := by
  obtain ⟨h1, h2, h3, h4, h5⟩ := srt_node h.srt
  have hx := h.s x h.mem
  have hy := h.s y (by simp)
  have hR : ∀ z ∈ y :: R, z ≠ x := fun z hz e => by
    subst e
    rcases List.mem_cons.1 hz with rfl | hz
    · rw [ho.irr _ hx] at hxy; cases hxy
    · have := asym ho hy hx (h4 z hz); rw [hxy] at this; cases this
  have hm : x ∈ L := by
    rcases List.mem_append.1 h.mem with hm | hm
    · exact hm
    · exact absurd rfl (hR x hm)
  exact ⟨⟨h1, fun z hz => h.s z (List.mem_append_left _ hz), hm⟩, by rw [sans_append, sans_none hR]⟩
theorem In.right (ho : OrdOn lt S) {L R : List α} {y : α} (h : In lt S x (L ++ y :: R)) (hxy : lt y x = true) : In lt S x R ∧ sans x (L ++ y :: R) = L ++ y :: sans x R := by
  obtain ⟨h1, h2, h3, h4, h5⟩ := srt_node h.srt
  have hx := h.s x h.mem
  have hy := h.s y (by simp)
  have hL : ∀ z ∈ L, z ≠ x := fun z hz e => by
    subst e
    have := asym ho hx hy (h3 z hz); rw [hxy] at this; cases this
  have hyx := lt_ne ho hy hxy
  have hm : x ∈ R := by
    rcases List.mem_append.1 h.mem with hm | hm
    · exact absurd rfl (hL x hm)
    · rcases List.mem_cons.1 hm with rfl | hm
      · exact absurd rfl hyx
      · exact hm
  exact ⟨⟨h2, fun z hz => h.s z (by simp [hz]), hm⟩, by rw [sans_append, sans_none hL, sans_cons hyx]⟩
theorem In.eq (ho : OrdOn lt S) {L R : List α} {y : α} (h : In lt S x (L ++ y :: R)) (h6 : lt x y = false) (h7 : lt y x = false) : sans x (L ++ y :: R) = L ++ R := by
  obtain ⟨h1, h2, h3, h4, h5⟩ := srt_node h.srt
  have hx := h.s x h.mem
  have hy := h.s y (by simp)
  obtain rfl := ho.tri x y hx hy h6 h7
  rw [sans_append, sans_self, sans_none, sans_none]
  · intro z hz e; subst e; have := h4 _ hz; rw [ho.irr _ hx] at this; cases this
  · intro z hz e; subst e; have := h3 _ hz; rw [ho.irr _ hx] at this; cases this
theorem In.up (ho : OrdOn lt S) {L R : List α} {y u : α} (h : In lt S x (L ++ y :: R)) (hu : u ∈ R) (hxy : lt x y = true) : lt x u = true := by
  obtain ⟨h1, h2, h3, h4, h5⟩ := srt_node h.srt
  exact ho.tr x y u (h.s x h.mem) (h.s y (by simp)) (h.s u (by simp [hu])) hxy (h4 u hu)
theorem In.down (ho : OrdOn lt S) {L R : List α} {y u : α} (h : In lt S x (L ++ y :: R)) (hu : u ∈ L) (hxy : lt x y = false) : lt u x = true := by
  obtain ⟨h1, h2, h3, h4, h5⟩ := srt_node h.srt
  have hx := h.s x h.mem
  have hy := h.s y (by simp)
  have hus := h.s u (by simp [hu])
  have huy := h3 u hu
  cases hyx : lt y x
  · rw [ho.tri x y hx hy hxy hyx]; exact huy
  · exact ho.tr u y x hus hy hx huy hyx
def CutAt (lt : α → α → Bool) (S : α → Prop) (x : α) (k : Nat) : Prop :=
  ∀ (t : RB α) (h : Nat), Ok t h → t.isNil = false → (t.red = true ∨ t.left.red = true) → t.list.length ≤ k → In lt S x t.list → ∃ t', cut lt x k t = some t' ∧ Cut t t' h (sans x t.list)
/-- The right half of a step: the way goes on to the right, or the thing is here. -/
theorem right_step (ho : OrdOn lt S) {k : Nat} (ih : CutAt lt S x k) {l r : RB α} {y : α} {c : Bool} {h : Nat} (hr : Ok r h) (hn : r.isNil = false) (hc : r.red = true ∨ r.left.red = true) (hl : r.list.length ≤ k) (hI : In lt S x (l.list ++ y :: r.list)) (hxy : lt x y = false) :
    ∃ m r', (bif lt y x then (cut lt x k r).map fun r' => mend (node l y r' c) else match least r with
      | some m => (cutMin k r).map fun r' => mend (node l m r' c)
      | none => none) = some (mend (node l m r' c)) ∧ Ok r' h ∧ (r.red = false → r'.red = false) ∧ l.list ++ m :: r'.list = sans x (l.list ++ y :: r.list) := by
  cases hyx : lt y x
  · obtain ⟨m, hm, hm2⟩ := least_cons hn
    obtain ⟨r', e, q⟩ := cutMin_ok k r h hr hn hc hl
    refine ⟨m, r', by simp [hm, e], q.ok, q.black, ?_⟩
    rw [hI.eq ho hxy hyx, q.list, ← hm2]
  · obtain ⟨hI', e1⟩ := hI.right ho hyx
    obtain ⟨r', e, q⟩ := ih r h hr hn hc hl hI'
    exact ⟨y, r', by simp [e], q.ok, q.black, by rw [e1, q.list]⟩
theorem cut_pre (ho : OrdOn lt S) {k : Nat} (ih : CutAt lt S x k) {l r : RB α} {y : α} {h : Nat} (hl : Ok l h) (hr : Ok r h) (h1 : l.red = false) (h2 : r.red = true) (hxy : lt x y = false) (hlen : (node l y r false).list.length ≤ k + 1) (hI : In lt S x (l.list ++ y :: r.list)) :
    ∃ t', cut lt x (k + 1) (node l y r false) = some t' ∧ Cut (node l y r false) t' (h + 1) (sans x (l.list ++ y :: r.list)) := by
  have hn : r.isNil = false := by
    obtain ⟨a, b, c, rfl⟩ := red_true h2
    rfl
  simp only [list, List.length_append, List.length_cons] at hlen
  obtain ⟨m, r', e, e1, e2, e3⟩ := right_step ho ih (c := false) hr hn (.inl h2) (by omega) hI hxy
  refine ⟨_, ?_, mendR_black (y := m) hl e1, fun _ => mendR_stays e1 h1, by rw [list_mend]; exact e3⟩
  simp only [cut, hxy, h1, cond_false, downR, right_node, hn, h2, Bool.not_true, Bool.false_and]
  exact e
theorem cut_ok (ho : OrdOn lt S) : ∀ k, CutAt lt S x k
  | 0 => fun t h hk hn _ hl hI => by
    have := hI.mem
    cases ht : t.list with
    | nil => rw [ht] at this; cases this
    | cons a b => rw [ht] at hl; simp at hl
  | k + 1 => fun t h hk hn hc hl hI => by
    have ih := cut_ok ho k
    cases t with
    | nil => cases hn
    | node l y r c =>
    simp only [list, List.length_append, List.length_cons] at hl
    simp only [list] at hI
    cases hxy : lt x y
    · -- to the right
      cases c with
      | false =>
        obtain ⟨h, rfl, a, b, c⟩ := hk.inv_black
        have hlr : l.red = true := by rcases hc with hc | hc; cases hc; exact hc
        obtain ⟨ll, z, lr, rfl⟩ := red_true hlr
        obtain ⟨a1, a2, a3, a4⟩ := a.inv_red
        simp only [list, List.length_append, List.length_cons] at hl
        have hzx : lt z x = true := hI.down ho (by simp [list]) hxy
        have hI2 : In lt S x (ll.list ++ z :: (node lr y r true).list) := by simpa [list] using hI
        obtain ⟨hI3, e1⟩ := hI2.right ho hzx
        obtain ⟨t', e, q⟩ := ih (node lr y r true) h (.red a2 b a4 c) rfl (.inl rfl) (by simp only [list, List.length_append, List.length_cons]; omega) hI3
        refine ⟨mend (node ll z t' false), ?_, mendR_black a1 q.ok, fun _ => mendR_stays q.ok a3, ?_⟩
        · simp only [cut, hxy, cond_false, red_node, cond_true, toRight, right_node, isNil, downR, Bool.not_true, Bool.false_and, hzx]
          simp [e]
        · rw [list_mend]
          simp only [list]
          rw [q.list, ← e1]
          simp [list]
      | true =>
        obtain ⟨a, b, c, d⟩ := hk.inv_red
        cases h with
        | zero =>
          obtain rfl := black_zero a c
          obtain rfl := black_zero b d
          refine ⟨nil, by simp [cut, hxy, red, right, isNil], .nil, (fun h => by cases h), ?_⟩
          have hm := hI.mem
          simp [list] at hm
          subst hm
          simp [list, sans]
        | succ h =>
          obtain ⟨ll, u, lr, rfl, a1, a2, a3⟩ := black_succ a c
          obtain ⟨rl, z, rr, rfl, b1, b2, b3⟩ := black_succ b d
          simp only [list, List.length_append, List.length_cons] at hl
          cases hd : rl.red
          · cases he : ll.red
            · obtain ⟨m, r', e, e1, e2, e3⟩ := right_step ho ih (l := node ll u lr true) (c := false) (Ok.red (x := z) b1 b2 hd b3) rfl (.inl rfl) (by simp only [list, List.length_append, List.length_cons]; omega) (y := y) (by simpa [list] using hI) hxy
              refine ⟨_, ?_, mendR_black (y := m) (.red a1 a2 he a3) e1, (fun h => by cases h), by rw [list_mend]; rw [show (node (node ll u lr true) m r' false).list = (node ll u lr true).list ++ m :: r'.list from rfl, e3]; rfl⟩
              simp only [cut, hxy, cond_false, red_node, right_node, left_node, isNil, downR, hd, Bool.not_false, Bool.and_self, both, cond_true, redRight, flip, Bool.not_true, he]
              exact e
            · obtain ⟨p, v, s, rfl⟩ := red_true he
              obtain ⟨c1, c2, c3, c4⟩ := a1.inv_red
              have hux : lt u x = true := hI.down ho (by simp [list]) hxy
              have hI2 : In lt S x ((node p v s false).list ++ u :: (lr.list ++ y :: (node rl z rr true).list)) := by simpa [list] using hI
              obtain ⟨hI3, e1⟩ := hI2.right ho hux
              cases k with
              | zero => omega
              | succ k =>
              have ih' := cut_ok ho k
              obtain ⟨t', e, q⟩ := cut_pre ho ih' a2 (Ok.red (x := z) b1 b2 hd b3) a3 rfl hxy (by simp only [list, List.length_append, List.length_cons] at *; omega) hI3
              have q2 := q.black rfl
              have e5 := mend_id (l := node p v s false) (r := t') (x := u) (c := true) rfl q2
              refine ⟨node (node p v s false) u t' true, ?_, .red (.black c1 c2 c4) q.ok rfl q2, (fun h => by cases h), ?_⟩
              · rw [cut]
                simp only [hxy, cond_false, red_node, right_node, left_node, isNil, downR, hd, Bool.not_false, Bool.and_self, both, cond_true, redRight, flip, toRight, Bool.not_true, hux]
                rw [← e5, e]
                rfl
              · simp only [list] at *
                rw [q.list, ← e1]
                simp
          · obtain ⟨m, r', e, e1, e2, e3⟩ := right_step ho ih (l := node ll u lr false) (c := true) b rfl (.inr hd) (by simp only [list, List.length_append, List.length_cons]; omega) (y := y) (by simpa [list] using hI) hxy
            have q2 := e2 rfl
            have e5 := mend_id (l := node ll u lr false) (r := r') (x := m) (c := true) rfl q2
            refine ⟨node (node ll u lr false) m r' true, ?_, .red a e1 rfl q2, (fun h => by cases h), e3⟩
            rw [← e5]
            simp only [cut, hxy, cond_false, red_node, right_node, left_node, isNil, downR, hd, Bool.not_false, Bool.not_true, Bool.and_false, cond_true]
            exact e
    · -- to the left
      obtain ⟨hI1, eF⟩ := hI.left ho hxy
      cases c with
      | false =>
        obtain ⟨h, rfl, a, b, c⟩ := hk.inv_black
        have hlr : l.red = true := by rcases hc with hc | hc; cases hc; exact hc
        obtain ⟨ll, z, lr, rfl⟩ := red_true hlr
        obtain ⟨t', e, q⟩ := ih _ h a rfl (.inl rfl) (by omega) hI1
        have e2 := mendL_id (x := y) (c := false) q.ok c
        refine ⟨node t' y r false, ?_, .black q.ok b c, fun _ => rfl, ?_⟩
        · simp [cut, hxy, isNil, downL, left_node, right_node, red_node, e, e2]
        · simp only [list] at *
          rw [q.list, eF]
      | true =>
        obtain ⟨a, b, c, d⟩ := hk.inv_red
        cases h with
        | zero =>
          obtain rfl := black_zero a c
          have := hI1.mem
          cases this
        | succ h =>
          obtain ⟨ll, u, lr, rfl, a1, a2, a3⟩ := black_succ a c
          obtain ⟨rl, z, rr, rfl, b1, b2, b3⟩ := black_succ b d
          simp only [list, List.length_append, List.length_cons] at hl
          cases he : ll.red
          · cases hd : rl.red
            · obtain ⟨t', e, q⟩ := ih (node ll u lr true) h (.red a1 a2 he a3) rfl (.inl rfl) (by simp only [list, List.length_append, List.length_cons]; omega) hI1
              refine ⟨mend (node t' y (node rl z rr true) false), ?_, mendR_black q.ok (.red b1 b2 hd b3), (fun h => by cases h), ?_⟩
              · simp [cut, hxy, isNil, downL, both, redLeft, flip, left_node, right_node, red_node, he, hd, e]
              · rw [list_mend]
                simp only [list] at *
                rw [q.list, eF]
            · obtain ⟨rll, v, rlr, rfl⟩ := red_true hd
              obtain ⟨c1, c2, c3, c4⟩ := b1.inv_red
              have hxv : lt x v = true := hI.up ho (by simp [list]) hxy
              have hI2 : In lt S x ((node (node ll u lr true) y rll false).list ++ v :: (node rlr z rr false).list) := by simpa [list] using hI
              obtain ⟨hI3, eF2⟩ := hI2.left ho hxv
              obtain ⟨t', e, q⟩ := ih (node (node ll u lr true) y rll false) (h + 1) (.black (.red a1 a2 he a3) c1 c3) rfl (.inr rfl) (by simp only [list, List.length_append, List.length_cons] at *; omega) hI3
              have q2 := q.black rfl
              have e5 := mend_id (l := t') (r := node rlr z rr false) (x := v) (c := true) q2 rfl
              refine ⟨node t' v (node rlr z rr false) true, ?_, .red q.ok (.black c2 b2 b3) q2 rfl, (fun h => by cases h), ?_⟩
              · simp [cut, hxy, isNil, downL, both, redLeft, flip, toLeft, toRight, setR, left_node, right_node, red_node, he, e, e5]
              · simp only [list] at *
                rw [q.list, ← eF2]
                simp
          · obtain ⟨t', e, q⟩ := ih (node ll u lr false) (h + 1) a rfl (.inr he) (by simp only [list, List.length_append, List.length_cons]; omega) hI1
            have q2 := q.black rfl
            have e5 := mend_id (l := t') (r := node rl z rr false) (x := y) (c := true) q2 rfl
            refine ⟨node t' y (node rl z rr false) true, ?_, .red q.ok b q2 rfl, (fun h => by cases h), ?_⟩
            · simp [cut, hxy, isNil, downL, left_node, right_node, red_node, he, e, e5]
            · simp only [list] at *
              rw [q.list, eF]
end RB
end Go.Proofs.YtjooegonmdmajaaX
