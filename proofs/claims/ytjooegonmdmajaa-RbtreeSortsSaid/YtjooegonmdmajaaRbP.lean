/- Plain: left-leaning red-black trees: insertion keeps the order and the balance. No program in sight. -/
set_option linter.unusedVariables false
set_option linter.unusedSimpArgs false
namespace Go.Proofs.YtjooegonmdmajaaX
/-- A strict order on what lies in S. -/
structure OrdOn {α : Type} (lt : α → α → Bool) (S : α → Prop) : Prop where
  irr : ∀ a, S a → lt a a = false
  tr : ∀ a b c, S a → S b → S c → lt a b = true → lt b c = true → lt a c = true
  tri : ∀ a b, S a → S b → lt a b = false → lt b a = false → a = b
inductive RB (α : Type) where
  | nil
  | node (l : RB α) (x : α) (r : RB α) (c : Bool)
namespace RB
variable {α : Type}
def red : RB α → Bool
  | nil => false
  | node _ _ _ c => c
def left : RB α → RB α
  | nil => nil
  | node l _ _ _ => l
def right : RB α → RB α
  | nil => nil
  | node _ _ r _ => r
def list : RB α → List α
  | nil => []
  | node l x r _ => l.list ++ x :: r.list
def depth : RB α → Nat
  | nil => 0
  | node l _ r _ => 1 + max l.depth r.depth
def toLeft : RB α → RB α
  | node l x (node rl y rr _) c => node (node l x rl true) y rr c
  | t => t
def toRight : RB α → RB α
  | node (node ll y lr _) x r c => node ll y (node lr x r true) c
  | t => t
def flip : RB α → RB α
  | node (node a x b c1) y (node d z e c2) c => node (node a x b !c1) y (node d z e !c2) !c
  | t => t
def mend1 (t : RB α) : RB α := bif t.right.red && !t.left.red then toLeft t else t
def mend2 (t : RB α) : RB α := bif t.left.red && t.left.left.red then toRight t else t
def mend3 (t : RB α) : RB α := bif t.left.red && t.right.red then flip t else t
def mend (t : RB α) : RB α := mend3 (mend2 (mend1 t))
def ins (lt : α → α → Bool) : RB α → α → RB α
  | nil, x => node nil x nil true
  | node l y r c, x => bif lt x y then mend (node (ins lt l x) y r c) else mend (node l y (ins lt r x) c)
def blacken : RB α → RB α
  | nil => nil
  | node l x r _ => node l x r false
theorem left_node (l : RB α) (x : α) (r : RB α) (c : Bool) : (node l x r c).left = l := rfl
theorem right_node (l : RB α) (x : α) (r : RB α) (c : Bool) : (node l x r c).right = r := rfl
theorem red_node (l : RB α) (x : α) (r : RB α) (c : Bool) : (node l x r c).red = c := rfl
theorem list_toLeft : ∀ t : RB α, (toLeft t).list = t.list
  | nil => rfl
  | node l x nil c => rfl
  | node l x (node rl y rr _) c => by simp [toLeft, list]
theorem list_toRight : ∀ t : RB α, (toRight t).list = t.list
  | nil => rfl
  | node nil x r c => rfl
  | node (node ll y lr _) x r c => by simp [toRight, list]
theorem list_flip : ∀ t : RB α, (flip t).list = t.list
  | nil => rfl
  | node nil x r c => rfl
  | node (node a x b _) y nil c => rfl
  | node (node a x b _) y (node d z e _) c => by simp [flip, list]
theorem list_mend (t : RB α) : (mend t).list = t.list := by
  unfold mend mend3 mend2 mend1
  repeat' (cases (_ && _) <;> simp only [cond_true, cond_false])
  all_goals simp only [list_toLeft, list_toRight, list_flip]
theorem list_blacken : ∀ t : RB α, (blacken t).list = t.list
  | nil => rfl
  | node l x r c => rfl
/-- Insertion into a list in order. -/
def insL (lt : α → α → Bool) (x : α) : List α → List α
  | [] => [x]
  | y :: l => bif lt x y then x :: y :: l else y :: insL lt x l
theorem insL_left {lt : α → α → Bool} {x y : α} (h : lt x y = true) (R : List α) : ∀ L : List α, insL lt x (L ++ y :: R) = insL lt x L ++ y :: R
  | [] => by simp [insL, h]
  | z :: L => by
    simp only [List.cons_append, insL]
    cases lt x z <;> simp [insL_left h R L]
theorem insL_right {lt : α → α → Bool} {x : α} (R : List α) : ∀ L : List α, (∀ z ∈ L, lt x z = false) → insL lt x (L ++ R) = L ++ insL lt x R
  | [], _ => rfl
  | z :: L, h => by
    simp only [List.cons_append, insL, h z List.mem_cons_self, cond_false]
    rw [insL_right R L fun z hz => h z (List.mem_cons_of_mem _ hz)]
def Srt (lt : α → α → Bool) (l : List α) : Prop := l.Pairwise fun a b => lt a b = true
theorem srt_node {lt : α → α → Bool} {L R : List α} {y : α} (h : Srt lt (L ++ y :: R)) : Srt lt L ∧ Srt lt R ∧ (∀ z ∈ L, lt z y = true) ∧ (∀ z ∈ R, lt y z = true) ∧ ∀ a ∈ L, ∀ b ∈ R, lt a b = true := by
  unfold Srt at *
  rw [List.pairwise_append, List.pairwise_cons] at h
  obtain ⟨h1, ⟨h2, h3⟩, h4⟩ := h
  exact ⟨h1, h3, fun z hz => h4 z hz y List.mem_cons_self, h2, fun a ha b hb => h4 a ha b (List.mem_cons_of_mem _ hb)⟩
theorem asym {lt : α → α → Bool} {S : α → Prop} (ho : OrdOn lt S) {a b : α} (ha : S a) (hb : S b) (h : lt a b = true) : lt b a = false := by
  cases h2 : lt b a
  · rfl
  · have h3 := ho.tr a b a ha hb ha h h2
    rw [ho.irr a ha] at h3
    cases h3
theorem list_ins {lt : α → α → Bool} {S : α → Prop} (ho : OrdOn lt S) {x : α} (hx : S x) : ∀ t : RB α, Srt lt t.list → (∀ z ∈ t.list, S z) → (ins lt t x).list = insL lt x t.list
  | nil, _, _ => rfl
  | node l y r c, hs, hS => by
    obtain ⟨h1, h2, h3, h4, h5⟩ := srt_node hs
    simp only [list, List.mem_append, List.mem_cons] at hS
    have hl := list_ins ho hx l h1 fun z hz => hS z (.inl hz)
    have hr := list_ins ho hx r h2 fun z hz => hS z (.inr (.inr hz))
    have hy := hS y (.inr (.inl rfl))
    simp only [ins, list]
    cases hxy : lt x y
    · rw [cond_false, list_mend]
      simp only [list, hr]
      rw [insL_right _ l.list fun z hz => ?_]
      · simp [insL, hxy]
      · have hz' := hS z (.inl hz)
        cases hxz : lt x z
        · rfl
        · rw [ho.tr x z y hx hz' hy hxz (h3 z hz)] at hxy; cases hxy
    · rw [cond_true, list_mend]
      simp only [list, hl]
      rw [insL_left hxy]
/-! ### Balance -/
inductive Ok : RB α → Nat → Prop
  | nil : Ok nil 0
  | black {l r : RB α} {x : α} {h : Nat} : Ok l h → Ok r h → r.red = false → Ok (node l x r false) (h + 1)
  | red {l r : RB α} {x : α} {h : Nat} : Ok l h → Ok r h → l.red = false → r.red = false → Ok (node l x r true) h
/-- As Ok, but a red root may have a red left child. -/
inductive Alm : RB α → Nat → Prop
  | ok {t : RB α} {h : Nat} : Ok t h → Alm t h
  | rr {l r : RB α} {x : α} {h : Nat} : Ok l h → Ok r h → l.red = true → r.red = false → Alm (node l x r true) h
theorem Ok.blacken {t : RB α} {h : Nat} (k : Ok t h) : ∃ h', Ok (blacken t) h' := by
  cases k with
  | nil => exact ⟨_, .nil⟩
  | black a b c => exact ⟨_, .black a b c⟩
  | red a b c d => exact ⟨_, .black a b d⟩
theorem red_true {t : RB α} (h : t.red = true) : ∃ l x r, t = node l x r true := by
  cases t with
  | nil => cases h
  | node l x r c => exact ⟨l, x, r, by rw [show c = true from h]⟩
theorem Ok.inv_red {l r : RB α} {x : α} {h : Nat} (k : Ok (node l x r true) h) : Ok l h ∧ Ok r h ∧ l.red = false ∧ r.red = false := by
  cases k with
  | red a b c d => exact ⟨a, b, c, d⟩
theorem Ok.inv_black {l r : RB α} {x : α} {h : Nat} (k : Ok (node l x r false) h) : ∃ h', h = h' + 1 ∧ Ok l h' ∧ Ok r h' ∧ r.red = false := by
  cases k with
  | black a b c => exact ⟨_, rfl, a, b, c⟩
theorem red_left_false {t : RB α} {h : Nat} (k : Ok t h) (hr : t.red = true) : t.left.red = false := by
  obtain ⟨l, x, r, rfl⟩ := red_true hr
  exact k.inv_red.2.2.1
theorem mendL_black {l r : RB α} {y : α} {h : Nat} (hl : Alm l h) (hr : Ok r h) (h1 : r.red = false) : Ok (mend (node l y r false)) (h + 1) := by
  cases hl with
  | ok hl =>
    have hlr : (l.red && l.left.red) = false := by
      cases hc : l.red
      · rfl
      · rw [red_left_false hl hc]; rfl
    have : mend (node l y r false) = node l y r false := by
      simp [mend, mend1, mend2, mend3, left_node, right_node, red_node, h1, hlr]
    rw [this]
    exact .black hl hr h1
  | rr a b c d =>
    obtain ⟨ll, z, lr, rfl⟩ := red_true c
    obtain ⟨p1, p2, p3, p4⟩ := a.inv_red
    simp [mend, mend1, mend2, mend3, left_node, right_node, red_node, h1, toRight, flip]
    exact .red (.black p1 p2 p4) (.black b hr h1) rfl rfl
theorem mendL_red {l r : RB α} {y : α} {h : Nat} (hl : Ok l h) (hr : Ok r h) (h1 : r.red = false) : Alm (mend (node l y r true)) h := by
  have hlr : (l.red && l.left.red) = false := by
    cases hc : l.red
    · rfl
    · rw [red_left_false hl hc]; rfl
  have : mend (node l y r true) = node l y r true := by
    simp [mend, mend1, mend2, mend3, left_node, right_node, red_node, h1, hlr]
  rw [this]
  cases hc : l.red
  · exact .ok (.red hl hr hc h1)
  · exact .rr hl hr hc h1
theorem mendR_black {l r : RB α} {y : α} {h : Nat} (hl : Ok l h) (hr : Ok r h) : Ok (mend (node l y r false)) (h + 1) := by
  cases hc : r.red
  · exact mendL_black (.ok hl) hr hc
  · obtain ⟨rl, z, rr, rfl⟩ := red_true hc
    obtain ⟨p1, p2, p3, p4⟩ := hr.inv_red
    cases hd : l.red
    · have : mend (node l y (node rl z rr true) false) = node (node l y rl true) z rr false := by
        simp [mend, mend1, mend2, mend3, left_node, right_node, red_node, toLeft, hd, p4]
      rw [this]
      exact .black (.red hl p1 hd p3) p2 p4
    · obtain ⟨ll, u, lr, rfl⟩ := red_true hd
      obtain ⟨q1, q2, q3, q4⟩ := hl.inv_red
      have : mend (node (node ll u lr true) y (node rl z rr true) false) = node (node ll u lr false) y (node rl z rr false) true := by
        simp [mend, mend1, mend2, mend3, left_node, right_node, red_node, flip, q3]
      rw [this]
      exact .red (.black q1 q2 q4) (.black p1 p2 p4) rfl rfl
theorem mendR_red {l r : RB α} {y : α} {h : Nat} (hl : Ok l h) (hr : Ok r h) (h1 : l.red = false) : Alm (mend (node l y r true)) h := by
  cases hc : r.red
  · exact mendL_red hl hr hc
  · obtain ⟨rl, z, rr, rfl⟩ := red_true hc
    obtain ⟨p1, p2, p3, p4⟩ := hr.inv_red
    have : mend (node l y (node rl z rr true) true) = node (node l y rl true) z rr true := by
      simp [mend, mend1, mend2, mend3, left_node, right_node, red_node, toLeft, h1, p4]
    rw [this]
    exact .rr (.red hl p1 h1 p3) p2 rfl p4
theorem ok_ins (lt : α → α → Bool) (x : α) : ∀ {t : RB α} {h : Nat}, Ok t h → Alm (ins lt t x) h ∧ (t.red = false → Ok (ins lt t x) h) := by
  intro t h k
  induction k with
  | nil => exact ⟨.ok (.red .nil .nil rfl rfl), fun _ => .red .nil .nil rfl rfl⟩
  | @black l r y h a b c ia ib =>
    have key : Ok (ins lt (node l y r false) x) (h + 1) := by
      simp only [ins]
      cases lt x y
      · exact mendR_black a (ib.2 c)
      · exact mendL_black ia.1 b c
    exact ⟨.ok key, fun _ => key⟩
  | @red l r y h a b c d ia ib =>
    refine ⟨?_, fun h => by cases h⟩
    simp only [ins]
    cases lt x y
    · exact mendR_red a (ib.2 d) c
    · exact mendL_red (ia.2 c) b d
/-- A tree as it stands between two calls. -/
def Good (t : RB α) : Prop := t.red = false ∧ ∃ h, Ok t h
theorem Good.nil : Good (nil : RB α) := ⟨rfl, 0, .nil⟩
theorem blacken_red (t : RB α) : (blacken t).red = false := by cases t <;> rfl
theorem Good.ins {lt : α → α → Bool} {x : α} {t : RB α} (k : Good t) : Good (blacken (ins lt t x)) := by
  obtain ⟨hr, h, k⟩ := k
  exact ⟨blacken_red _, ((ok_ins lt x k).2 hr).blacken⟩
theorem ok_depth {t : RB α} {h : Nat} (k : Ok t h) : t.depth ≤ 2 * h + (if t.red then 1 else 0) ∧ 2 ^ h ≤ t.list.length + 1 := by
  induction k with
  | nil => simp [depth, list]
  | @black l r y h a b c ia ib =>
    obtain ⟨a1, a2⟩ := ia
    obtain ⟨b1, b2⟩ := ib
    refine ⟨?_, ?_⟩
    · simp only [depth, red]
      have : (if l.red = true then 1 else 0) ≤ 1 := by split <;> omega
      have : (if r.red = true then 1 else 0) ≤ 1 := by split <;> omega
      simp only [Bool.false_eq_true, if_false]
      omega
    · simp only [list, List.length_append, List.length_cons]
      rw [Nat.pow_succ]
      omega
  | @red l r y h a b c d ia ib =>
    obtain ⟨a1, a2⟩ := ia
    obtain ⟨b1, b2⟩ := ib
    rw [c] at a1
    rw [d] at b1
    refine ⟨?_, ?_⟩
    · simp only [depth, red]
      simp only [Bool.false_eq_true, if_false, if_true] at *
      omega
    · simp only [list, List.length_append, List.length_cons]
      omega
theorem Good.depth {t : RB α} (k : Good t) : 2 ^ ((t.depth + 1) / 2) ≤ t.list.length + 1 := by
  obtain ⟨hr, h, k⟩ := k
  obtain ⟨h1, h2⟩ := ok_depth k
  rw [hr] at h1
  simp only [Bool.false_eq_true, if_false] at h1
  exact Nat.le_trans (Nat.pow_le_pow_right (by decide) (show (t.depth + 1) / 2 ≤ h by omega)) h2
end RB
end Go.Proofs.YtjooegonmdmajaaX
