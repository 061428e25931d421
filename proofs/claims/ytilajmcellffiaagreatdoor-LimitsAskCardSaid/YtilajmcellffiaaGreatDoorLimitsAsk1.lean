/- A part of the proof: what its functions compute. -/
import Derived.Test.YtilajmcellffiaaGreatDoorA8
set_option linter.unusedVariables false
set_option linter.unusedSimpArgs false
set_option maxRecDepth 100000
namespace Go.Proofs.YtilajmcellffiaaGreatDoorX
theorem sn_tri {a b c : Int} (h0 : -9223372036854775808 ≤ sn a b - sn c b) (h1 : sn a b - sn c b < 9223372036854775808) : sn a c = sn a b - sn c b := by unfold sn at *; omega
theorem sn_lat {b k : Int} (h : In64 k) : sn (lat b k) b = k := by unfold sn lat; unfold In64 at h; omega
theorem lat_sn {t b : Int} (h : U64 t) : lat b (sn t b) = t := by unfold sn lat; unfold U64 at h; omega
theorem lat_zero {b : Int} (h : U64 b) : lat b 0 = b := by unfold lat; unfold U64 at h; omega
theorem sn_self (b : Int) : sn b b = 0 := by unfold sn; omega
def Near (x y : Int) : Prop := -9223372036854775808 ≤ x - y ∧ x - y < 9223372036854775808
theorem sn_near {a c b : Int} (h : Near (sn a b) (sn c b)) : sn a c = sn a b - sn c b := sn_tri h.1 h.2
theorem mul_lt_cancel {c a b : Int} (hc : 0 < c) (h : c * a ≤ c * b) : a ≤ b := Int.le_of_mul_le_mul_left h hc
theorem fr_trans {a b c p q r : Int} (hp : 0 < p) (hq : 0 < q) (hr : 0 < r) (h1 : a * q ≤ b * p) (h2 : b * r ≤ c * q) : a * r ≤ c * p := by
  have k1 := Int.mul_le_mul_of_nonneg_right h1 (Int.le_of_lt hr)
  have k2 := Int.mul_le_mul_of_nonneg_right h2 (Int.le_of_lt hp)
  refine mul_lt_cancel hq ?_
  have e1 : q * (a * r) = a * q * r := by grind
  have e2 : b * p * r = b * r * p := by grind
  have e3 : c * q * p = q * (c * p) := by grind
  omega
theorem pright_all {p : Pt} (hp : p.In) (h : p.right = true) : 1 ≤ p.w ∧ p.w ≤ 1048576 ∧ 0 ≤ p.r ∧ p.r < p.w := by
  unfold Pt.right at h
  simp only [Bool.and_eq_true, decide_eq_true_eq] at h
  have := mayW_iff.1 h.1
  exact ⟨this.1, this.2, hp.2.1.1, h.2⟩
theorem cmpP_frac {p q : Pt} (hp : p.In) (hq : q.In) (h1 : p.right = true) (h2 : q.right = true) {b : Int} (hn : Near (sn q.t b) (sn p.t b)) : cmpP p q = cmpI (dist p b * q.w) (dist q b * p.w) := by
  have a1 := pright_all hp h1
  have a2 := pright_all hq h2
  unfold cmpP
  rw [sn_near hn]
  have d1 : dist p b = p.w * sn p.t b + p.r := rfl
  have d2 : dist q b = q.w * sn q.t b + q.r := rfl
  generalize sn p.t b = x at *
  generalize sn q.t b = y at *
  have e1 : dist p b * q.w = p.w * q.w * x + p.r * q.w := by rw [d1]; grind
  have e2 : dist q b * p.w = p.w * q.w * y + q.r * p.w := by rw [d2]; grind
  have m0 : 0 < p.w * q.w := Int.mul_pos (by omega) (by omega)
  have m1 : 0 ≤ p.r * q.w := Int.mul_nonneg (by omega) (by omega)
  have m2 : 0 ≤ q.r * p.w := Int.mul_nonneg (by omega) (by omega)
  have m3 : p.r * q.w < p.w * q.w := Int.mul_lt_mul_of_pos_right (by omega) (by omega)
  have m4 : q.r * p.w < p.w * q.w := by rw [Int.mul_comm p.w]; exact Int.mul_lt_mul_of_pos_right (by omega) (by omega)
  rw [e1, e2]
  generalize p.w * q.w = W at *
  generalize p.r * q.w = u at *
  generalize q.r * p.w = v at *
  rcases Int.lt_trichotomy x y with h | h | h
  · have : W * x + W ≤ W * y := by have := Int.mul_le_mul_of_nonneg_left (show x + 1 ≤ y by omega) (Int.le_of_lt m0); rwa [Int.mul_add, Int.mul_one] at this
    have c1 : cmpI 0 (y - x) = -1 := by unfold cmpI; rw [if_pos (by omega)]
    rw [c1, if_neg (by decide)]
    unfold cmpI; rw [if_pos (by omega)]
  · subst h
    have c1 : cmpI 0 (x - x) = 0 := by unfold cmpI; rw [if_neg (by omega), if_neg (by omega)]
    rw [if_pos c1]
    unfold cmpI
    by_cases k : u < v
    · rw [if_pos k, if_pos (by omega)]
    · rw [if_neg k, if_neg (show ¬ W * x + u < W * x + v by omega)]
      by_cases k' : v < u
      · rw [if_pos k', if_pos (by omega)]
      · rw [if_neg k', if_neg (by omega)]
  · have : W * y + W ≤ W * x := by have := Int.mul_le_mul_of_nonneg_left (show y + 1 ≤ x by omega) (Int.le_of_lt m0); rwa [Int.mul_add, Int.mul_one] at this
    have c1 : cmpI 0 (y - x) = 1 := by unfold cmpI; rw [if_neg (by omega), if_pos (by omega)]
    rw [c1, if_neg (by decide)]
    unfold cmpI; rw [if_neg (by omega), if_pos (by omega)]
theorem lex_ord {α : Type} {c : α → α → Int} {lt2 : α → α → Bool} {S : α → Prop} (le : α → α → Prop) (h1 : ∀ a b, S a → S b → (c a b < 0 ↔ ¬ le b a)) (h0 : ∀ a b, S a → S b → (c a b = 0 ↔ le a b ∧ le b a)) (tot : ∀ a b, S a → S b → le a b ∨ le b a)
    (tr : ∀ a b d, S a → S b → S d → le a b → le b d → le a d) (o : OrdOn lt2 S) : OrdOn (fun a b => decide (c a b < 0) || (decide (c a b = 0) && lt2 a b)) S where
  irr a ha := by
    have k1 := h1 a a ha ha
    have := tot a a ha ha
    simp only [o.irr a ha, Bool.and_false, Bool.or_false, decide_eq_false_iff_not, k1]
    rcases this with h | h <;> exact fun k => k h
  tr a b d ha hb hd k1 k2 := by
    simp only [Bool.or_eq_true, Bool.and_eq_true, decide_eq_true_eq] at k1 k2 ⊢
    rw [h1 a b ha hb, h0 a b ha hb] at k1
    rw [h1 b d hb hd, h0 b d hb hd] at k2
    rw [h1 a d ha hd, h0 a d ha hd]
    have tab := tot a b ha hb
    have tbd := tot b d hb hd
    have x1 := tr d a b hd ha hb
    have x2 := tr b d a hb hd ha
    have x3 := tr a b d ha hb hd
    have x4 := tr d b a hd hb ha
    rcases k1 with k1 | ⟨⟨k1, k1'⟩, k3⟩
    · left; intro hda
      rcases k2 with k2 | ⟨⟨k2, k2'⟩, k4⟩
      · rcases tbd with h | h
        · exact k1 (x2 h hda)
        · exact k2 h
      · exact k1 (x2 k2 hda)
    · rcases k2 with k2 | ⟨⟨k2, k2'⟩, k4⟩
      · left; intro hda
        exact k2 (x1 hda k1)
      · right; exact ⟨⟨x3 k1 k2, x4 k2' k1'⟩, o.tr a b d ha hb hd k3 k4⟩
  tri a b ha hb k1 k2 := by
    simp only [Bool.or_eq_false_iff, Bool.and_eq_false_iff, decide_eq_false_iff_not] at k1 k2
    rw [h1 a b ha hb, h0 a b ha hb] at k1
    rw [h1 b a hb ha, h0 b a hb ha] at k2
    have q1 : le b a := Classical.not_not.1 k1.1
    have q2 : le a b := Classical.not_not.1 k2.1
    rcases k1.2 with h | h
    · exact absurd ⟨q2, q1⟩ h
    · rcases k2.2 with h' | h'
      · exact absurd ⟨q1, q2⟩ h'
      · exact o.tri a b ha hb h h'
structure Win (b lo : Int) (x : It) : Prop where
  isin : x.In
  right : x.right = true
  low : lo ≤ sn x.p.t b
  high : sn x.p.t b + sn x.d.t x.p.t ≤ lo + 4611686018427387904
theorem iright_all {x : It} (hx : x.In) (h : x.right = true) : x.p.right = true ∧ x.d.right = true ∧ x.p.w = x.d.w ∧ 0 < x.id ∧ 0 ≤ sn x.d.t x.p.t ∧ sn x.d.t x.p.t ≤ 1152921504606846976 ∧ (1 ≤ x.p.w ∧ x.p.w ≤ 1048576 ∧ 0 ≤ x.p.r ∧ x.p.r < x.p.w) ∧ 0 ≤ x.d.r ∧ x.d.r < x.p.w := by
  unfold It.right at h
  simp only [Bool.and_eq_true, decide_eq_true_eq] at h
  obtain ⟨⟨⟨⟨⟨h1, h2⟩, h3⟩, h4⟩, h5⟩, h6⟩ := h
  have a1 := pright_all hx.1 h1
  have a2 := pright_all hx.2.2 h2
  exact ⟨h1, h2, h3, h4, h5, h6, a1, a2.2.2.1, by omega⟩
def Mid (lo : Int) : Prop := -4611686018427387904 ≤ lo ∧ lo ≤ 0
theorem Win.dead {b lo : Int} {x : It} (h : Win b lo x) (hm : Mid lo) : sn x.d.t b = sn x.p.t b + sn x.d.t x.p.t ∧ 0 ≤ sn x.d.t x.p.t ∧ sn x.p.t b ≤ lo + 4611686018427387904 := by
  obtain ⟨_, _, _, _, h5, h6, _⟩ := iright_all h.isin h.right
  have h1 := h.low
  have h2 := h.high
  unfold Mid at hm
  refine ⟨?_, h5, by omega⟩
  unfold sn at *; omega
theorem Win.move {b lo c : Int} {x : It} (h : Win b lo x) (hm : Mid lo) (h0 : lo ≤ sn c b) (h1 : sn c b ≤ lo + 4611686018427387904) : Win c (lo - sn c b) x ∧ sn x.p.t c = sn x.p.t b - sn c b := by
  have d := h.dead hm
  have k1 := h.low
  have k2 := h.high
  unfold Mid at hm
  have e : sn x.p.t c = sn x.p.t b - sn c b := sn_tri (by omega) (by omega)
  exact ⟨⟨h.isin, h.right, by omega, by omega⟩, e⟩
theorem dist_move {p : Pt} {b c k : Int} (e : sn p.t c = sn p.t b - k) : dist p c = dist p b - p.w * k := by
  unfold dist; rw [e, Int.mul_sub]; omega
def leP (b : Int) (p q : Pt) : Prop := dist p b * q.w ≤ dist q b * p.w
theorem cmp_le {p q : Pt} {b : Int} (e : cmpP p q = cmpI (dist p b * q.w) (dist q b * p.w)) : (cmpP p q < 0 ↔ ¬ leP b q p) ∧ (cmpP p q = 0 ↔ leP b p q ∧ leP b q p) := by
  rw [e]; unfold leP cmpI
  split
  · constructor <;> constructor <;> intro <;> first | omega | skip
  · split
    · constructor <;> constructor <;> intro <;> first | omega | skip
    · constructor <;> constructor <;> intro <;> first | omega | skip
theorem ahead_ord {b lo : Int} (hm : Mid lo) {S : It → Prop} (hS : ∀ x, S x → Win b lo x) (hi : ∀ x y, S x → S y → x.id = y.id → x = y) : OrdOn ahead S := by
  have hc : ∀ x y, S x → S y → cmpP x.p y.p = cmpI (dist x.p b * y.p.w) (dist y.p b * x.p.w) := fun x y hx hy => by
    have a1 := hS x hx
    have a2 := hS y hy
    have d1 := a1.dead hm
    have d2 := a2.dead hm
    have l1 := a1.low
    have l2 := a2.low
    exact cmpP_frac a1.isin.1 a2.isin.1 (iright_all a1.isin a1.right).1 (iright_all a2.isin a2.right).1 (by unfold Near; unfold Mid at hm; omega)
  have hw : ∀ x, S x → 0 < x.p.w := fun x hx => by have := (iright_all (hS x hx).isin (hS x hx).right).2.2.2.2.2.2.1; omega
  have oid : OrdOn (fun x y : It => decide (x.id < y.id)) S := by
    constructor
    · intro a _; simp
    · intro a b c _ _ _ h1 h2; simp only [decide_eq_true_eq] at *; omega
    · intro a b ha hb h1 h2; simp only [decide_eq_false_iff_not] at *; exact hi a b ha hb (by omega)
  exact lex_ord (c := fun x y : It => cmpP x.p y.p) (fun x y => leP b x.p y.p) (fun x y hx hy => (cmp_le (hc x y hx hy)).1) (fun x y hx hy => (cmp_le (hc x y hx hy)).2) (fun x y _ _ => Int.le_total _ _) (fun x y z hx hy hz h1 h2 => fr_trans (hw x hx) (hw y hy) (hw z hz) h1 h2) oid
theorem due_ord {b lo : Int} (hm : Mid lo) {S : It → Prop} (hS : ∀ x, S x → Win b lo x) (hi : ∀ x y, S x → S y → x.id = y.id → x = y) : OrdOn due S := by
  have hc : ∀ x y, S x → S y → cmpP x.d y.d = cmpI (dist x.d b * y.d.w) (dist y.d b * x.d.w) := fun x y hx hy => by
    have a1 := hS x hx
    have a2 := hS y hy
    have d1 := a1.dead hm
    have d2 := a2.dead hm
    have l1 := a1.low
    have l2 := a2.low
    have r1 := iright_all a1.isin a1.right
    have r2 := iright_all a2.isin a2.right
    have u1 := a1.high
    have u2 := a2.high
    exact cmpP_frac a1.isin.2.2 a2.isin.2.2 r1.2.1 r2.2.1 (by unfold Near; unfold Mid at hm; omega)
  have hw : ∀ x, S x → 0 < x.d.w := fun x hx => by
    have := iright_all (hS x hx).isin (hS x hx).right
    have h3 := this.2.2.1
    have h4 := this.2.2.2.2.2.2.1
    omega
  exact lex_ord (c := fun x y : It => cmpP x.d y.d) (fun x y => leP b x.d y.d) (fun x y hx hy => (cmp_le (hc x y hx hy)).1) (fun x y hx hy => (cmp_le (hc x y hx hy)).2) (fun x y _ _ => Int.le_total _ _) (fun x y z hx hy hz h1 h2 => fr_trans (hw x hx) (hw y hy) (hw z hz) h1 h2) (ahead_ord hm hS hi)
end Go.Proofs.YtilajmcellffiaaGreatDoorX

namespace Go.Proofs.YtilajmcellffiaaGreatDoorX
def sumD (b : Int) : List It → Int
  | [] => 0
  | a :: l => dist a.p b + sumD b l
def sumW : List It → Int
  | [] => 0
  | a :: l => a.p.w + sumW l
theorem sumD_perm {b : Int} {l l' : List It} (h : l.Perm l') : sumD b l = sumD b l' := by
  induction h with
  | nil => rfl
  | cons _ _ ih => simp only [sumD, ih]
  | swap _ _ _ => simp only [sumD]; omega
  | trans _ _ h1 h2 => rw [h1, h2]
theorem sumW_perm {l l' : List It} (h : l.Perm l') : sumW l = sumW l' := by
  induction h with
  | nil => rfl
  | cons _ _ ih => simp only [sumW, ih]
  | swap _ _ _ => simp only [sumW]; omega
  | trans _ _ h1 h2 => rw [h1, h2]
theorem sum_rng {b lo hi : Int} : ∀ {l : List It}, (∀ x ∈ l, x.In ∧ x.right = true ∧ lo ≤ sn x.p.t b ∧ sn x.p.t b ≤ hi) → sumW l * lo ≤ sumD b l ∧ sumD b l + l.length ≤ sumW l * (hi + 1) ∧ (l.length : Int) ≤ sumW l ∧ sumW l ≤ l.length * 1048576
  | [], _ => by simp [sumD, sumW]
  | a :: l, h => by
    obtain ⟨h1, h2, h3, h4⟩ := sum_rng fun x hx => h x (List.mem_cons_of_mem _ hx)
    obtain ⟨k1, k2, k3, k4⟩ := h a List.mem_cons_self
    obtain ⟨_, _, _, _, _, _, ⟨w1, w2, w3, w4⟩, _⟩ := iright_all k1 k2
    have m1 : a.p.w * lo ≤ a.p.w * sn a.p.t b := Int.mul_le_mul_of_nonneg_left k3 (by omega)
    have m2 : a.p.w * sn a.p.t b ≤ a.p.w * hi := Int.mul_le_mul_of_nonneg_left k4 (by omega)
    simp only [sumD, sumW, dist, List.length_cons, Int.add_mul, Int.mul_add, Int.mul_one] at *
    omega
theorem Win.rng {b lo : Int} {x : It} (h : Win b lo x) (hm : Mid lo) : x.In ∧ x.right = true ∧ lo ≤ sn x.p.t b ∧ sn x.p.t b ≤ lo + 4611686018427387904 := ⟨h.isin, h.right, h.low, (h.dead hm).2.2⟩
structure IsM (m : Mn) (l : List It) : Prop where
  a : m.a = sumD m.b l
  w : m.w = sumW l
  n : m.n = l.length
theorem IsM.perm {m : Mn} {l l' : List It} (h : IsM m l) (p : l.Perm l') : IsM m l' := ⟨h.a.trans (sumD_perm p), h.w.trans (sumW_perm p), by rw [h.n, p.length_eq]⟩
def AllW (b lo : Int) (l : List It) : Prop := Mid lo ∧ l.length ≤ 32 ∧ ∀ x ∈ l, Win b lo x
theorem AllW.sum {b lo : Int} {l : List It} (h : AllW b lo l) : sumW l * lo ≤ sumD b l ∧ sumD b l + l.length ≤ sumW l * (lo + 4611686018427387904 + 1) ∧ (l.length : Int) ≤ sumW l ∧ sumW l ≤ l.length * 1048576 := sum_rng fun x hx => (h.2.2 x hx).rng h.1
theorem AllW.inW {b lo : Int} {l : List It} (h : AllW b lo l) : InW (sumD b l) := by
  obtain ⟨h1, h2, h3, h4⟩ := h.sum
  obtain ⟨⟨m1, m2⟩, hl, _⟩ := h
  have k1 : sumW l * (-4611686018427387904) ≤ sumW l * lo := Int.mul_le_mul_of_nonneg_left m1 (by omega)
  have k2 : sumW l * (lo + 4611686018427387904 + 1) ≤ sumW l * 4611686018427387905 := Int.mul_le_mul_of_nonneg_left (by omega) (by omega)
  unfold InW; omega
theorem AllW.right {m : Mn} {lo : Int} {l : List It} (h : AllW m.b lo l) (k : IsM m l) : m.right = true := by
  obtain ⟨h1, h2, h3, h4⟩ := h.sum
  have hl := h.2.1
  rw [mright_iff]
  have e1 := k.a
  have e2 := k.w
  have e3 := k.n
  cases l with
  | nil => left; simp only [sumD, sumW, List.length_nil] at *; omega
  | cons x l => right; simp only [List.length_cons] at *; omega
theorem AllW.perm {b lo : Int} {l l' : List It} (h : AllW b lo l) (p : l.Perm l') : AllW b lo l' := ⟨h.1, by rw [← p.length_eq]; exact h.2.1, fun x hx => h.2.2 x (p.mem_iff.2 hx)⟩
theorem AllW.tail {b lo : Int} {a : It} {l : List It} (h : AllW b lo (a :: l)) : AllW b lo l := ⟨h.1, by have := h.2.1; simp only [List.length_cons] at this; omega, fun x hx => h.2.2 x (List.mem_cons_of_mem _ hx)⟩
theorem AllW.head {b lo : Int} {a : It} {l : List It} (h : AllW b lo (a :: l)) : Win b lo a := h.2.2 a List.mem_cons_self
theorem add_is {m : Mn} {lo : Int} {a : It} {l : List It} (h : AllW m.b lo (a :: l)) (k : IsM m l) : ∃ m', addM m a.p = some m' ∧ m'.b = m.b ∧ IsM m' (a :: l) := by
  have hr := h.tail.right k
  have hp := (iright_all h.head.isin h.head.right).1
  have hw := h.inW
  have hl := h.2.1
  have e1 := k.a
  have e2 := k.w
  have e3 := k.n
  simp only [List.length_cons] at hl
  simp only [sumD] at hw
  refine ⟨_, if_pos ⟨hr, hp, by omega, by rw [e1, Int.add_comm]; exact hw⟩, rfl, ?_⟩
  constructor
  · simp only [sumD]; omega
  · simp only [sumW]; omega
  · simp only [List.length_cons]; omega
theorem take_is {m : Mn} {lo : Int} {a : It} {l : List It} (h : AllW m.b lo (a :: l)) (k : IsM m (a :: l)) : takM m a.p = some (lessM m a.p) ∧ IsM (lessM m a.p) l := by
  have hr := h.right k
  have hp := (iright_all h.head.isin h.head.right).1
  have hw := h.tail.inW
  have e1 := k.a
  have e2 := k.w
  have e3 := k.n
  have hs := h.tail.sum.2.2.1
  simp only [sumD, sumW, List.length_cons] at e1 e2 e3
  have i : IsM (lessM m a.p) l := ⟨by simp only [lessM]; omega, by simp only [lessM]; omega, by simp only [lessM]; omega⟩
  refine ⟨if_pos ⟨hr, hp, by omega, by omega, ?_, (show AllW (lessM m a.p).b lo l from h.tail).right i⟩, i⟩
  rw [show m.a - dist a.p m.b = sumD m.b l by omega]; exact hw
theorem AllW.mid {b lo : Int} {l : List It} (h : AllW b lo l) (hl : l ≠ []) : 0 < sumW l ∧ lo ≤ sumD b l / sumW l ∧ sumD b l / sumW l ≤ lo + 4611686018427387904 := by
  obtain ⟨h1, h2, h3, h4⟩ := h.sum
  have hp : 0 < l.length := List.length_pos_iff.2 hl
  refine ⟨by omega, Int.le_ediv_of_mul_le (by omega) (by rw [Int.mul_comm]; exact h1), ?_⟩
  have := Int.ediv_lt_of_lt_mul (a := sumD b l) (b := lo + 4611686018427387904 + 1) (c := sumW l) (by omega) (by rw [Int.mul_comm]; omega)
  omega
theorem floor_is {m : Mn} {lo : Int} {l : List It} (h : AllW m.b lo l) (k : IsM m l) (hl : l ≠ []) : flM m = some (lat m.b (sumD m.b l / sumW l)) := by
  obtain ⟨h1, h2, h3⟩ := h.mid hl
  have hm := h.1
  unfold Mid at hm
  have hn : m.n ≠ 0 := by rw [k.n]; have := List.length_pos_iff.2 hl; omega
  unfold flM
  rw [← k.a, ← k.w] at *
  exact if_pos ⟨h.right k, hn, by unfold In64; omega⟩
theorem sumD_move {b c k : Int} : ∀ {l : List It}, (∀ x ∈ l, sn x.p.t c = sn x.p.t b - k) → sumD c l = sumD b l - sumW l * k
  | [], _ => by simp [sumD, sumW]
  | a :: l, h => by
    simp only [sumD, sumW]
    rw [sumD_move fun x hx => h x (List.mem_cons_of_mem _ hx), dist_move (h a List.mem_cons_self), Int.add_mul]; omega
structure Cen (m : Mn) (l : List It) : Prop where
  is : IsM m l
  u : U64 m.b
  a0 : 0 ≤ m.a
  a1 : m.a < m.w
  all : ∃ lo, AllW m.b lo l
theorem AllW.move {b lo c : Int} {l : List It} (h : AllW b lo l) (h0 : lo ≤ sn c b) (h1 : sn c b ≤ lo + 4611686018427387904) : AllW c (lo - sn c b) l ∧ ∀ x ∈ l, sn x.p.t c = sn x.p.t b - sn c b := by
  have hm := h.1
  unfold Mid at hm
  exact ⟨⟨by unfold Mid; omega, h.2.1, fun x hx => ((h.2.2 x hx).move h.1 h0 h1).1⟩, fun x hx => ((h.2.2 x hx).move h.1 h0 h1).2⟩
theorem centre_is {m : Mn} {lo : Int} {l : List It} (h : AllW m.b lo l) (k : IsM m l) (hl : l ≠ []) : ∃ m', rebM m ((flM m).getD 0) = some m' ∧ Cen m' l := by
  obtain ⟨h1, h2, h3⟩ := h.mid hl
  have hm := h.1
  have hf := floor_is h k hl
  rw [hf, Option.getD_some]
  unfold Mid at hm
  have e : sn (lat m.b (sumD m.b l / sumW l)) m.b = sumD m.b l / sumW l := sn_lat (by unfold In64; omega)
  have hM := h.move (c := lat m.b (sumD m.b l / sumW l)) (by rw [e]; exact h2) (by rw [e]; exact h3)
  rw [e] at hM
  have hs := sumD_move hM.2
  have ea := k.a
  have ew := k.w
  have em : m.a - m.w * (sumD m.b l / sumW l) = sumD m.b l % sumW l := by rw [ea, ew]; have := Int.mul_ediv_add_emod (sumD m.b l) (sumW l); omega
  have n0 := Int.emod_nonneg (sumD m.b l) (show sumW l ≠ 0 by omega)
  have n1 := Int.emod_lt_of_pos (sumD m.b l) h1
  have hi : InW (sumD m.b l % sumW l) := by
    have := h.sum.2.2.2
    have := h.2.1
    unfold InW; omega
  refine ⟨_, if_pos ⟨h.right k, by rw [e, em]; exact hi⟩, ⟨⟨?_, ew, k.n⟩, lat_in _ _, ?_, ?_, _, hM.1⟩⟩
  · show m.a - m.w * sn _ m.b = sumD _ l
    rw [e, hs, ea, ew]
  · show 0 ≤ m.a - m.w * sn _ m.b
    rw [e, em]; exact n0
  · show m.a - m.w * sn _ m.b < m.w
    rw [e, em, ew]; exact n1
theorem Cen.now {m : Mn} {l : List It} (h : Cen m l) (hl : l ≠ []) : flM m = some m.b := by
  obtain ⟨lo, k⟩ := h.all
  rw [floor_is k h.is hl, ← h.is.a, ← h.is.w, Int.ediv_eq_zero_of_lt h.a0 h.a1, lat_zero h.u]
def meanL : List It → Mn
  | [] => .zero
  | x :: l => ⟨lat x.p.t (sumD x.p.t (x :: l) / sumW (x :: l)), sumD x.p.t (x :: l) % sumW (x :: l), sumW (x :: l), (x :: l).length⟩
theorem Cen.perm {m : Mn} {l l' : List It} (h : Cen m l) (p : l.Perm l') : Cen m l' := by
  obtain ⟨lo, k⟩ := h.all
  exact ⟨h.is.perm p, h.u, h.a0, h.a1, lo, k.perm p⟩
theorem Cen.eq {m : Mn} : ∀ {l : List It}, Cen m l → l ≠ [] → m = meanL l
  | [], _, h => absurd rfl h
  | x :: l, h, _ => by
    obtain ⟨lo, k⟩ := h.all
    have d := k.head.dead k.1
    have hM := k.move (c := x.p.t) k.head.low d.2.2
    have hs := sumD_move hM.2
    have e := lat_sn (b := m.b) k.head.isin.1.1
    show m = ⟨lat x.p.t (sumD x.p.t (x :: l) / sumW (x :: l)), sumD x.p.t (x :: l) % sumW (x :: l), sumW (x :: l), (x :: l).length⟩
    rw [hs, ← h.is.a, ← h.is.w, ← h.is.n]
    have hw : 0 < m.w := by have := h.a0; have := h.a1; omega
    have q : (m.a - m.w * sn x.p.t m.b) / m.w = - sn x.p.t m.b := by
      rw [Int.sub_eq_add_neg, ← Int.mul_neg, Int.add_mul_ediv_left _ _ (by omega), Int.ediv_eq_zero_of_lt h.a0 h.a1]; omega
    have r : (m.a - m.w * sn x.p.t m.b) % m.w = m.a := by
      rw [Int.sub_eq_add_neg, ← Int.mul_neg, Int.add_mul_emod_self_left, Int.emod_eq_of_lt h.a0 h.a1]
    rw [q, r]
    have : lat x.p.t (- sn x.p.t m.b) = m.b := by
      have hu := h.u
      have := e
      unfold U64 at hu
      unfold lat at *; omega
    rw [this]
end Go.Proofs.YtilajmcellffiaaGreatDoorX

namespace Go.Proofs.YtilajmcellffiaaGreatDoorX
open IB (IT)
namespace RB
variable {α : Type} {lt : α → α → Bool} {S : α → Prop} {x : α}
theorem insL_perm (x : α) : ∀ l : List α, (insL lt x l).Perm (x :: l)
  | [] => .refl _
  | y :: l => by
    unfold insL
    cases lt x y
    · exact ((insL_perm x l).cons y).trans (.swap _ _ _)
    · exact .refl _
theorem insL_srt (ho : OrdOn lt S) (hx : S x) : ∀ {l : List α}, (∀ z ∈ l, S z) → Srt lt l → x ∉ l → Srt lt (insL lt x l)
  | [], _, _, _ => List.pairwise_singleton _ _
  | y :: l, hS, h, hn => by
    obtain ⟨h1, h2⟩ := List.pairwise_cons.1 h
    have hy := hS y List.mem_cons_self
    unfold insL
    cases e : lt x y
    · have hyx : lt y x = true := by
        cases e' : lt y x
        · exact absurd (ho.tri x y hx hy e e') (fun h => hn (by rw [h]; exact List.mem_cons_self))
        · rfl
      refine List.pairwise_cons.2 ⟨fun z hz => ?_, insL_srt ho hx (fun z hz => hS z (List.mem_cons_of_mem _ hz)) h2 (fun hm => hn (List.mem_cons_of_mem _ hm))⟩
      rcases List.mem_cons.1 ((insL_perm x l).mem_iff.1 hz) with rfl | hz
      · exact hyx
      · exact h1 z hz
    · refine List.pairwise_cons.2 ⟨fun z hz => ?_, h⟩
      rcases List.mem_cons.1 hz with rfl | hz
      · exact e
      · exact ho.tr x y z hx hy (hS z (List.mem_cons_of_mem _ hz)) e (h1 z hz)
theorem srt_nodup (ho : OrdOn lt S) {l : List α} (hS : ∀ z ∈ l, S z) (h : Srt lt l) : l.Nodup := by
  refine List.Pairwise.imp_of_mem (fun {a b} ha hb hab e => ?_) h
  subst e
  rw [ho.irr a (hS a ha)] at hab; cases hab
theorem sans_perm [DecidableEq α] {l : List α} (h : l.Nodup) (hx : x ∈ l) : l.Perm (x :: sans x l) := by
  induction l with
  | nil => cases hx
  | cons y l ih =>
    obtain ⟨h1, h2⟩ := List.nodup_cons.1 h
    by_cases e : y = x
    · subst e
      rw [sans_self, sans_none (fun z hz he => h1 (by rw [← he]; exact hz))]
    · rw [sans_cons e]
      exact ((ih h2 ((List.mem_cons.1 hx).resolve_left (fun h => e h.symm))).cons y).trans (.swap _ _ _)
end RB
theorem ordT {L : List IT} {b lo : Int} (h : ∀ x ∈ L, Win b lo x.1) (hm : Mid lo) (hi : ∀ x ∈ L, ∀ y ∈ L, x.1.id = y.1.id → x = y) : OrdOn IB.ltT (· ∈ L) := by
  have o := ahead_ord (b := b) (lo := lo) (S := fun z => ∃ y ∈ L, y.1 = z) hm (by rintro _ ⟨y, hy, rfl⟩; exact h y hy) (by rintro _ _ ⟨y, hy, rfl⟩ ⟨z, hz, rfl⟩ e; rw [hi y hy z hz e])
  exact ⟨fun a ha => o.irr a.1 ⟨a, ha, rfl⟩, fun a b c ha hb hc => o.tr a.1 b.1 c.1 ⟨a, ha, rfl⟩ ⟨b, hb, rfl⟩ ⟨c, hc, rfl⟩, fun a b ha hb k1 k2 => Subtype.ext (o.tri a.1 b.1 ⟨a, ha, rfl⟩ ⟨b, hb, rfl⟩ k1 k2)⟩
theorem dueT {L : List IT} {b lo : Int} (h : ∀ x ∈ L, Win b lo x.1) (hm : Mid lo) (hi : ∀ x ∈ L, ∀ y ∈ L, x.1.id = y.1.id → x = y) : OrdOn (fun x y : IT => due x.1 y.1) (· ∈ L) := by
  have o := due_ord (b := b) (lo := lo) (S := fun z => ∃ y ∈ L, y.1 = z) hm (by rintro _ ⟨y, hy, rfl⟩; exact h y hy) (by rintro _ _ ⟨y, hy, rfl⟩ ⟨z, hz, rfl⟩ e; rw [hi y hy z hz e])
  exact ⟨fun a ha => o.irr a.1 ⟨a, ha, rfl⟩, fun a b c ha hb hc => o.tr a.1 b.1 c.1 ⟨a, ha, rfl⟩ ⟨b, hb, rfl⟩ ⟨c, hc, rfl⟩, fun a b ha hb k1 k2 => Subtype.ext (o.tri a.1 b.1 ⟨a, ha, rfl⟩ ⟨b, hb, rfl⟩ k1 k2)⟩
theorem delC_ok {a : IT} {t : RB IT} {S : IT → Prop} (ho : OrdOn IB.ltT S) (hg : RB.Good t) (hs : RB.Srt IB.ltT t.list) (hS : ∀ z ∈ t.list, S z) (ha : a ∈ t.list) : ∃ t', IB.delC a t = some t' ∧ (∃ h, RB.Ok t' h) ∧ t'.list = RB.sans a t.list := by
  cases t with
  | nil => cases ha
  | node l y r c =>
    obtain ⟨hc, h, hk⟩ := hg
    obtain rfl : c = false := hc
    obtain ⟨h', rfl, hl, hr, hrr⟩ := hk.inv_black
    have hq : ∃ h', RB.Ok (.node l y r (IB.rootC l r false)) h' ∧ (IB.rootC l r false = true ∨ l.red = true) := by
      unfold IB.rootC
      rw [hrr]
      cases e : l.red
      · exact ⟨_, .red hl hr e hrr, .inl rfl⟩
      · exact ⟨_, .black hl hr hrr, .inr rfl⟩
    obtain ⟨h2, hok, hc⟩ := hq
    obtain ⟨t1, e1, e2⟩ := RB.cut_ok ho (RB.node l y r false).list.length (.node l y r (IB.rootC l r false)) h2 hok rfl hc (Nat.le_refl _) ⟨hs, hS, ha⟩
    exact ⟨t1, e1, ⟨_, e2.ok⟩, e2.list⟩
end Go.Proofs.YtilajmcellffiaaGreatDoorX

namespace Go.Proofs.YtilajmcellffiaaGreatDoorX
open IB (IT)
structure QI (s : Qs) : Prop where
  good : RB.Good s.t
  srt : RB.Srt IB.ltT s.t.list
  f : ∀ i a, s.f i = some a ↔ a ∈ s.t.list ∧ a.1.id = i
  n : s.n = s.t.list.length
  len : s.t.list.length ≤ 32
  cen : s.t.list ≠ [] → Cen s.m (plain s.t.list)
  nil : s.t.list = [] → s.m.a = 0 ∧ s.m.w = 0 ∧ s.m.n = 0
theorem QI.inj {s : Qs} (h : QI s) : ∀ x ∈ s.t.list, ∀ y ∈ s.t.list, x.1.id = y.1.id → x = y := fun x hx y hy e => by
  have h1 := (h.f _ x).2 ⟨hx, rfl⟩
  have h2 := (h.f _ y).2 ⟨hy, e.symm⟩
  rw [h1] at h2; exact Option.some.inj h2
theorem plain_ne {l : List IT} (h : l ≠ []) : plain l ≠ [] := fun e => h (List.map_eq_nil_iff.1 e)
theorem plain_perm {l l' : List IT} (h : l.Perm l') : (plain l).Perm (plain l') := h.map _
theorem plain_win {l : List IT} {b lo : Int} (h : AllW b lo (plain l)) : ∀ x ∈ l, Win b lo x.1 := fun x hx => h.2.2 _ (List.mem_map_of_mem hx)
theorem QI.win {s : Qs} (h : QI s) : ∃ lo, AllW s.m.b lo (plain s.t.list) := by
  by_cases e : s.t.list = []
  · rw [e]; exact ⟨0, by unfold Mid; omega, by simp [plain], by simp [plain]⟩
  · exact (h.cen e).all
theorem QI.ord {s : Qs} (h : QI s) : OrdOn IB.ltT (· ∈ s.t.list) := by
  obtain ⟨lo, k⟩ := h.win
  exact ordT (plain_win k) k.1 h.inj
theorem nowQ_ne {s : Qs} (h : s.t.list ≠ []) : nowQ s = (flM s.m).getD 0 := by
  unfold nowQ
  rw [decide_eq_false (fun e => h (List.eq_nil_of_length_eq_zero e)), cond_false]
theorem nowQ_nil {s : Qs} (h : s.t.list = []) : nowQ s = s.c := by
  unfold nowQ
  rw [h]; rfl
theorem QI.now {s : Qs} (h : QI s) (e : s.t.list ≠ []) : nowQ s = s.m.b := by
  rw [nowQ_ne e, (h.cen e).now (plain_ne e)]; rfl
theorem preM_nil {s : Qs} {a : IT} (h : s.t.list = []) : preM s a = ⟨a.1.p.t, 0, 0, 0⟩ := by unfold preM; rw [h]; rfl
theorem preM_ne {s : Qs} {a : IT} (h : s.t.list ≠ []) : preM s a = s.m := by
  unfold preM
  rw [decide_eq_false (fun e => h (List.eq_nil_of_length_eq_zero e)), cond_false]
theorem QI.pre {s : Qs} (h : QI s) (a : IT) : IsM (preM s a) (plain s.t.list) := by
  by_cases e : s.t.list = []
  · rw [preM_nil e, e]; exact ⟨rfl, rfl, rfl⟩
  · rw [preM_ne e]; exact (h.cen e).is
theorem updI_spec {f : Int → Option IT} {L L' : List IT} {a : IT} (h : ∀ i x, f i = some x ↔ x ∈ L ∧ x.1.id = i) (hn : f a.1.id = none) (hp : L'.Perm (a :: L)) : ∀ i x, updI f a.1.id (some a) i = some x ↔ x ∈ L' ∧ x.1.id = i := fun i x => by
  unfold updI
  rw [hp.mem_iff, List.mem_cons]
  by_cases e : i = a.1.id
  · rw [decide_eq_true e, cond_true]
    constructor
    · rintro ⟨⟩; exact ⟨.inl rfl, e.symm⟩
    · rintro ⟨rfl | hx, hi⟩
      · rfl
      · rw [(h a.1.id x).2 ⟨hx, by omega⟩] at hn; cases hn
  · rw [decide_eq_false e, cond_false, h i x]
    constructor
    · exact fun ⟨h1, h2⟩ => ⟨.inr h1, h2⟩
    · rintro ⟨rfl | hx, hi⟩
      · exact absurd hi.symm e
      · exact ⟨hx, hi⟩
theorem QI.put {s : Qs} (h : QI s) {a : IT} {lo : Int} (hn : s.f a.1.id = none) (hw : AllW (preM s a).b lo (a.1 :: plain s.t.list)) : QI (putQ s a) ∧ (putQ s a).t.list.Perm (a :: s.t.list) ∧ (putQ s a).c = s.c := by
  have hna : a ∉ s.t.list := fun hm => by rw [(h.f _ a).2 ⟨hm, rfl⟩] at hn; cases hn
  have hid : ∀ x ∈ s.t.list, x.1.id ≠ a.1.id := fun x hx e => by rw [(h.f _ x).2 ⟨hx, e⟩] at hn; cases hn
  have ho : OrdOn IB.ltT (· ∈ a :: s.t.list) := ordT (b := (preM s a).b) (lo := lo) (fun x hx => by
      rcases List.mem_cons.1 hx with rfl | hx
      · exact hw.head
      · exact plain_win hw.tail x hx) hw.1 (fun x hx y hy e => by
      rcases List.mem_cons.1 hx with h1 | h1 <;> rcases List.mem_cons.1 hy with h2 | h2
      · rw [h1, h2]
      · rw [h1] at e; exact absurd e.symm (hid y h2)
      · rw [h2] at e; exact absurd e (hid x h1)
      · exact h.inj x h1 y h2 e)
  have hhas : RB.has IB.ltT a s.t = false := by
    have := RB.has_iff ho (x := a) List.mem_cons_self s.t h.srt (fun z hz => List.mem_cons_of_mem _ hz)
    cases e : RB.has IB.ltT a s.t
    · rfl
    · exact absurd (this.1 e) hna
  have ht : (putQ1 s a).t = RB.blacken (RB.ins IB.ltT s.t a) := by show IB.RB.insert s.t a = _; unfold IB.RB.insert; rw [hhas]; rfl
  have hl : (putQ1 s a).t.list = RB.insL IB.ltT a s.t.list := by rw [ht, RB.list_blacken, RB.list_ins ho List.mem_cons_self s.t h.srt (fun z hz => List.mem_cons_of_mem _ hz)]
  have hp : (putQ1 s a).t.list.Perm (a :: s.t.list) := by rw [hl]; exact RB.insL_perm _ _
  obtain ⟨m', e1, e2, e3⟩ := add_is hw (h.pre a)
  have em : (putQ1 s a).m = m' := by show (addM _ _).getD .zero = _; rw [e1]; rfl
  have hne : (putQ1 s a).t.list ≠ [] := fun e => by rw [e] at hp; exact absurd hp.length_eq (by simp)
  obtain ⟨m2, e4, e5⟩ := centre_is (m := m') (lo := lo) (l := a.1 :: plain s.t.list) (by rw [e2]; exact hw) e3 (by simp)
  have ec : putQ s a = { putQ1 s a with m := m2 } := by
    unfold putQ centreQ
    rw [nowQ_ne hne, em, e4]; rfl
  have hl32 := hw.2.1
  simp only [plain, List.length_cons, List.length_map] at hl32
  refine ⟨?_, by rw [ec]; exact hp, by rw [ec]; rfl⟩
  rw [ec]
  exact {
    good := by show RB.Good (putQ1 s a).t; rw [ht]; exact RB.Good.ins h.good
    srt := by show RB.Srt _ (putQ1 s a).t.list; rw [hl]; exact RB.insL_srt ho List.mem_cons_self (fun z hz => List.mem_cons_of_mem _ hz) h.srt hna
    f := updI_spec h.f hn hp
    n := by
      show (if (s.f a.1.id).isSome then s.n else s.n + 1) = (putQ1 s a).t.list.length
      rw [hn, hp.length_eq, h.n]; rfl
    len := by show (putQ1 s a).t.list.length ≤ 32; rw [hp.length_eq]; exact hl32
    cen := fun _ => e5.perm (plain_perm hp.symm)
    nil := fun e => absurd e hne }
theorem QI.cut {s : Qs} (h : QI s) {a : IT} (ha : a ∈ s.t.list) : QI (cutQ s a) ∧ (cutQ s a).t.list = RB.sans a s.t.list ∧ s.t.list.Perm (a :: RB.sans a s.t.list) ∧ (cutQ s a).c = nowQ s ∧ CutOk a s.t := by
  have hne : s.t.list ≠ [] := fun e => by rw [e] at ha; cases ha
  obtain ⟨t1, d1, d2, d3⟩ := delC_ok h.ord h.good h.srt (fun z hz => hz) ha
  have hhas : RB.has IB.ltT a s.t = true := (RB.has_iff h.ord (x := a) ha s.t h.srt (fun z hz => hz)).2 ha
  have hnd := RB.srt_nodup h.ord (fun z hz => hz) h.srt
  have hp := RB.sans_perm hnd ha
  have ht : (cutQ1 s a).t = RB.blacken t1 := by show cutT a s.t = _; unfold cutT; rw [hhas, d1]; rfl
  have hl : (cutQ1 s a).t.list = RB.sans a s.t.list := by rw [ht, RB.list_blacken, d3]
  have hC := h.cen hne
  obtain ⟨lo, hw⟩ := hC.all
  have hw2 : AllW s.m.b lo (a.1 :: plain (RB.sans a s.t.list)) := hw.perm (plain_perm hp)
  have hm2 : IsM s.m (a.1 :: plain (RB.sans a s.t.list)) := hC.is.perm (plain_perm hp)
  obtain ⟨e1, e2⟩ := take_is hw2 hm2
  have em : (cutQ1 s a).m = lessM s.m a.1.p := by show (takM _ _).getD .zero = _; rw [e1]; rfl
  have hok : CutOk a s.t := fun _ => ⟨by rw [d1]; rfl, by rw [d1]; show t1.list.length + 1 = _; rw [d3, hp.length_eq]; rfl⟩
  have hmem : ∀ x, x ∈ RB.sans a s.t.list ↔ x ∈ s.t.list ∧ x ≠ a := fun x => by unfold RB.sans; rw [List.mem_filter]; simp
  have hsrt : RB.Srt IB.ltT (RB.sans a s.t.list) := List.Pairwise.filter _ h.srt
  have hlen := hp.length_eq
  simp only [List.length_cons] at hlen
  have hfa : s.f a.1.id = some a := (h.f _ a).2 ⟨ha, rfl⟩
  have hf : ∀ i x, updI s.f a.1.id none i = some x ↔ x ∈ RB.sans a s.t.list ∧ x.1.id = i := fun i x => by
    unfold updI
    rw [hmem]
    by_cases e : i = a.1.id
    · rw [decide_eq_true e, cond_true]
      constructor
      · rintro ⟨⟩
      · rintro ⟨⟨k1, k2⟩, k3⟩; exact absurd (h.inj x k1 a ha (by omega)) k2
    · rw [decide_eq_false e, cond_false, h.f i x]
      constructor
      · exact fun ⟨h1, h2⟩ => ⟨⟨h1, fun e' => e (by rw [← h2, e'])⟩, h2⟩
      · exact fun ⟨h1, h2⟩ => ⟨h1.1, h2⟩
  have hn : (if (s.f a.1.id).isSome then s.n - 1 else s.n) = (RB.sans a s.t.list).length := by rw [hfa, h.n]; simp only [Option.isSome_some, if_true]; omega
  have hg : RB.Good (cutQ1 s a).t := by rw [ht]; obtain ⟨k, d2⟩ := d2; exact ⟨RB.blacken_red _, d2.blacken⟩
  by_cases hz : RB.sans a s.t.list = []
  · have e3 : rebM (lessM s.m a.1.p) (nowQ s) = some ⟨nowQ s, 0, 0, 0⟩ := by
      have i1 := e2.a; have i2 := e2.w; have i3 := e2.n
      rw [hz] at i1 i2 i3
      simp only [plain, List.map_nil, sumD, sumW, List.length_nil] at i1 i2 i3
      unfold rebM
      rw [i1, i2, i3]
      simp only [Int.zero_mul, Int.sub_zero]
      exact if_pos ⟨by rw [mright_iff]; left; exact ⟨i3, i2, i1⟩, inW0⟩
    have ec : cutQ s a = { cutQ1 s a with m := ⟨nowQ s, 0, 0, 0⟩ } := by
      unfold cutQ centreQ
      rw [nowQ_nil (hl.trans hz), em, show (cutQ1 s a).c = nowQ s from rfl, e3]; rfl
    refine ⟨?_, by rw [ec]; exact hl, hp, by rw [ec]; rfl, hok⟩
    rw [ec]
    exact { good := hg, srt := by show RB.Srt _ (cutQ1 s a).t.list; rw [hl]; exact hsrt, f := by show ∀ i x, updI s.f a.1.id none i = some x ↔ x ∈ (cutQ1 s a).t.list ∧ _; rw [hl]; exact hf, n := by show (if _ then _ else _) = (cutQ1 s a).t.list.length; rw [hl]; exact hn, len := by show (cutQ1 s a).t.list.length ≤ 32; rw [hl, hz]; simp, cen := fun k => absurd (hl.trans hz) k, nil := fun _ => ⟨rfl, rfl, rfl⟩ }
  · obtain ⟨m2, e4, e5⟩ := centre_is (m := lessM s.m a.1.p) (lo := lo) (l := plain (RB.sans a s.t.list)) hw2.tail e2 (plain_ne hz)
    have ec : cutQ s a = { cutQ1 s a with m := m2 } := by
      unfold cutQ centreQ
      rw [nowQ_ne (by rw [hl]; exact hz), em, e4]; rfl
    refine ⟨?_, by rw [ec]; exact hl, hp, by rw [ec]; rfl, hok⟩
    rw [ec]
    exact { good := hg, srt := by show RB.Srt _ (cutQ1 s a).t.list; rw [hl]; exact hsrt, f := by show ∀ i x, updI s.f a.1.id none i = some x ↔ x ∈ (cutQ1 s a).t.list ∧ _; rw [hl]; exact hf, n := by show (if _ then _ else _) = (cutQ1 s a).t.list.length; rw [hl]; exact hn, len := by show (cutQ1 s a).t.list.length ≤ 32; rw [hl]; have := h.len; omega, cen := fun _ => by show Cen m2 (plain (cutQ1 s a).t.list); rw [hl]; exact e5, nil := fun k => absurd (hl.symm.trans k) hz }
theorem QI.new (c : Int) : QI (newQ c) where
  good := RB.Good.nil
  srt := List.Pairwise.nil
  f i a := by constructor; rintro ⟨⟩; rintro ⟨h, _⟩; cases h
  n := rfl
  len := by simp [newQ, RB.list]
  cen h := absurd rfl h
  nil _ := ⟨rfl, rfl, rfl⟩
end Go.Proofs.YtilajmcellffiaaGreatDoorX

namespace Go.Proofs.YtilajmcellffiaaGreatDoorX
open IB (IT)
theorem minL_spec : ∀ {l : List Int}, l ≠ [] → minL l ∈ l ∧ ∀ x ∈ l, minL l ≤ x
  | [], h => absurd rfl h
  | d :: l, _ => by
    suffices H : ∀ (l : List Int) (d : Int), (l.foldl (fun a b => if b < a then b else a) d = d ∨ l.foldl (fun a b => if b < a then b else a) d ∈ l) ∧ l.foldl (fun a b => if b < a then b else a) d ≤ d ∧ ∀ x ∈ l, l.foldl (fun a b => if b < a then b else a) d ≤ x by
      obtain ⟨h1, h2, h3⟩ := H l d
      refine ⟨List.mem_cons.2 h1, fun x hx => ?_⟩
      rcases List.mem_cons.1 hx with rfl | hx
      · exact h2
      · exact h3 x hx
    intro l
    induction l with
    | nil => intro d; exact ⟨.inl rfl, Int.le_refl _, by simp⟩
    | cons e l ih =>
      intro d
      rw [List.foldl_cons]
      obtain ⟨m, hm, k1, k2, k3⟩ : ∃ m, m = (if e < d then e else d) ∧ m ≤ d ∧ m ≤ e ∧ (m = d ∨ m = e) := ⟨_, rfl, by split <;> omega, by split <;> omega, by split <;> simp⟩
      rw [← hm]
      obtain ⟨h1, h2, h3⟩ := ih m
      refine ⟨?_, by omega, fun x hx => ?_⟩
      · rcases h1 with h1 | h1
        · rcases k3 with k3 | k3
          · exact .inl (h1.trans k3)
          · exact .inr (by rw [h1, k3]; exact List.mem_cons_self)
        · exact .inr (List.mem_cons_of_mem _ h1)
      · rcases List.mem_cons.1 hx with rfl | hx
        · omega
        · exact h3 x hx
theorem maxL_spec : ∀ {l : List Int}, l ≠ [] → maxL l ∈ l ∧ ∀ x ∈ l, x ≤ maxL l
  | [], h => absurd rfl h
  | d :: l, _ => by
    suffices H : ∀ (l : List Int) (d : Int), (l.foldl (fun a b => if b > a then b else a) d = d ∨ l.foldl (fun a b => if b > a then b else a) d ∈ l) ∧ d ≤ l.foldl (fun a b => if b > a then b else a) d ∧ ∀ x ∈ l, x ≤ l.foldl (fun a b => if b > a then b else a) d by
      obtain ⟨h1, h2, h3⟩ := H l d
      refine ⟨List.mem_cons.2 h1, fun x hx => ?_⟩
      rcases List.mem_cons.1 hx with rfl | hx
      · exact h2
      · exact h3 x hx
    intro l
    induction l with
    | nil => intro d; exact ⟨.inl rfl, Int.le_refl _, by simp⟩
    | cons e l ih =>
      intro d
      rw [List.foldl_cons]
      obtain ⟨m, hm, k1, k2, k3⟩ : ∃ m, m = (if e > d then e else d) ∧ m ≥ d ∧ m ≥ e ∧ (m = d ∨ m = e) := ⟨_, rfl, by split <;> omega, by split <;> omega, by split <;> simp⟩
      rw [← hm]
      obtain ⟨h1, h2, h3⟩ := ih m
      refine ⟨?_, by omega, fun x hx => ?_⟩
      · rcases h1 with h1 | h1
        · rcases k3 with k3 | k3
          · exact .inl (h1.trans k3)
          · exact .inr (by rw [h1, k3]; exact List.mem_cons_self)
        · exact .inr (List.mem_cons_of_mem _ h1)
      · rcases List.mem_cons.1 hx with rfl | hx
        · omega
        · exact h3 x hx
theorem minL_mem_eq {l l' : List Int} (h : ∀ x, x ∈ l ↔ x ∈ l') : minL l = minL l' := by
  by_cases e : l = []
  · subst e
    have : l' = [] := List.eq_nil_iff_forall_not_mem.2 fun x hx => by have := (h x).2 hx; cases this
    rw [this]
  · have e' : l' ≠ [] := fun k => e (List.eq_nil_iff_forall_not_mem.2 fun x hx => by have := (h x).1 hx; rw [k] at this; cases this)
    obtain ⟨h1, h2⟩ := minL_spec e
    obtain ⟨k1, k2⟩ := minL_spec e'
    have := h2 _ ((h _).2 k1)
    have := k2 _ ((h _).1 h1)
    omega
theorem maxL_mem_eq {l l' : List Int} (h : ∀ x, x ∈ l ↔ x ∈ l') : maxL l = maxL l' := by
  by_cases e : l = []
  · subst e
    have : l' = [] := List.eq_nil_iff_forall_not_mem.2 fun x hx => by have := (h x).2 hx; cases this
    rw [this]
  · have e' : l' ≠ [] := fun k => e (List.eq_nil_iff_forall_not_mem.2 fun x hx => by have := (h x).1 hx; rw [k] at this; cases this)
    obtain ⟨h1, h2⟩ := maxL_spec e
    obtain ⟨k1, k2⟩ := maxL_spec e'
    have := h2 _ ((h _).2 k1)
    have := k2 _ ((h _).1 h1)
    omega
theorem mem_places {b d : Int} {l : List It} : d ∈ sinces b (places l) ↔ ∃ x ∈ l, d = sn x.p.t b := by
  unfold sinces places
  simp only [List.map_map, List.mem_map, Function.comp]
  exact ⟨fun ⟨x, h, e⟩ => ⟨x, h, e.symm⟩, fun ⟨x, h, e⟩ => ⟨x, h, e.symm⟩⟩
theorem mem_boths {b d : Int} {l : List It} : d ∈ sinces b (bothPs l) ↔ ∃ x ∈ l, d = sn x.p.t b ∨ d = sn x.d.t b := by
  unfold sinces bothPs
  simp only [List.mem_map, List.mem_flatMap, List.mem_cons, List.not_mem_nil, or_false]
  constructor
  · rintro ⟨p, ⟨x, h, rfl | rfl⟩, rfl⟩
    · exact ⟨x, h, .inl rfl⟩
    · exact ⟨x, h, .inr rfl⟩
  · rintro ⟨x, h, rfl | rfl⟩
    · exact ⟨_, ⟨x, h, .inl rfl⟩, rfl⟩
    · exact ⟨_, ⟨x, h, .inr rfl⟩, rfl⟩
theorem spr_mem {b : Int} {l l' : List It} (h : ∀ x, x ∈ l ↔ x ∈ l') : spr b l = spr b l' := by
  unfold spr
  rw [maxL_mem_eq (l := sinces b (bothPs l)) (l' := sinces b (bothPs l')) (fun x => by rw [mem_boths, mem_boths]; simp only [h]), minL_mem_eq (l := sinces b (places l)) (l' := sinces b (places l')) (fun x => by rw [mem_places, mem_places]; simp only [h])]
theorem within_mem {b : Int} {l l' : List It} (h : ∀ x, x ∈ l ↔ x ∈ l') : within b l = within b l' := by unfold within; rw [spr_mem h]
theorem win_of {b : Int} {l : List It} (h1 : ∀ x ∈ l, x.In ∧ x.right = true) (h2 : within b l = true) (h3 : ∃ x ∈ l, sn x.p.t b ≤ 0) (h4 : ∃ x ∈ l, 0 ≤ sn x.p.t b) (hl : l.length ≤ 32) : ∃ lo, AllW b lo l := by
  unfold within at h2
  rw [decide_eq_true_eq] at h2
  obtain ⟨x0, hx0, k0⟩ := h3
  obtain ⟨x1, hx1, k1⟩ := h4
  have e1 : sinces b (places l) ≠ [] := fun e => by have := (mem_places (b := b)).2 ⟨x0, hx0, rfl⟩; rw [e] at this; cases this
  have e2 : sinces b (bothPs l) ≠ [] := fun e => by have := (mem_boths (b := b)).2 ⟨x0, hx0, .inl rfl⟩; rw [e] at this; cases this
  obtain ⟨m1, m2⟩ := minL_spec e1
  obtain ⟨n1, n2⟩ := maxL_spec e2
  have a0 := m2 _ (mem_places.2 ⟨x0, hx0, rfl⟩)
  have a1 := n2 _ (mem_boths.2 ⟨x1, hx1, .inl rfl⟩)
  unfold spr at h2
  have r1 : minL (sinces b (places l)) ≥ -9223372036854775808 := by obtain ⟨x, _, e⟩ := mem_places.1 m1; rw [e]; exact (sn_rng _ _).1
  have r2 : maxL (sinces b (bothPs l)) < 9223372036854775808 := by
    obtain ⟨x, _, e | e⟩ := mem_boths.1 n1
    · rw [e]; exact (sn_rng _ _).2
    · rw [e]; exact (sn_rng _ _).2
  generalize minL (sinces b (places l)) = lo at *
  generalize maxL (sinces b (bothPs l)) = hi at *
  refine ⟨lo, by unfold Mid; omega, hl, fun x hx => ?_⟩
  obtain ⟨i1, i2⟩ := h1 x hx
  have b1 := m2 _ (mem_places.2 ⟨x, hx, rfl⟩)
  have b2 := n2 _ (mem_boths.2 ⟨x, hx, .inl rfl⟩)
  have b3 := n2 _ (mem_boths.2 ⟨x, hx, .inr rfl⟩)
  obtain ⟨_, _, _, _, d1, d2, _⟩ := iright_all i1 i2
  have ed : sn x.d.t b = sn x.p.t b + sn x.d.t x.p.t := by unfold sn at *; omega
  exact ⟨i1, i2, b1, by omega⟩
structure As where
  l : List RT
  c : Int
def its (l : List RT) : List It := l.map fun r => r.1.i
def nowA (A : As) : Int := if A.l = [] then A.c else (meanL (its A.l)).b
def baseA (A : As) (a : It) : Int := if A.l = [] then a.p.t else nowA A
def joinA (A : As) (a : It) : Int :=
  bif !a.right then 2 else bif (findR A.l a.id).isSome then 13 else bif decide (A.l.length = 32) then 7 else bif !within (baseA A a) (its A.l ++ [a]) then 8 else 0
def entE (A : As) (r : RT) : Int := layE r.1 (joinA A r.1.i)
def entA (A : As) (r : RT) : As := if entE A r = 0 then ⟨putR r A.l, A.c⟩ else A
def extA (A : As) (id : Int) : As := if (findR A.l id).isSome then ⟨delR id A.l, nowA A⟩ else A
structure Rep (s : Ss) (A : As) : Prop where
  q : QI s.q
  l : s.l = A.l
  p : s.q.t.list.Perm (A.l.map itR)
  c : s.q.c = A.c
  r : ∀ r ∈ A.l, r.1.right = true
  o : OrdR A.l
theorem its_itR (l : List RT) : plain (l.map itR) = its l := by unfold plain its; rw [List.map_map]; rfl
theorem Rep.len {s : Ss} {A : As} (h : Rep s A) : s.q.t.list.length = A.l.length := by rw [h.p.length_eq, List.length_map]
theorem Rep.le {s : Ss} {A : As} (h : Rep s A) : A.l.length ≤ 32 := by rw [← h.len]; exact h.q.len
theorem Rep.nil {s : Ss} {A : As} (h : Rep s A) : s.q.t.list = [] ↔ A.l = [] := by
  rw [← List.length_eq_zero_iff, h.len, List.length_eq_zero_iff]
theorem Rep.pits {s : Ss} {A : As} (h : Rep s A) : (plain s.q.t.list).Perm (its A.l) := by rw [← its_itR]; exact plain_perm h.p
theorem its_ne {l : List RT} (h : l ≠ []) : its l ≠ [] := fun e => h (List.map_eq_nil_iff.1 e)
theorem Rep.cen {s : Ss} {A : As} (h : Rep s A) (e : A.l ≠ []) : Cen s.q.m (its A.l) := (h.q.cen (fun k => e (h.nil.1 k))).perm h.pits
theorem Rep.mean {s : Ss} {A : As} (h : Rep s A) (e : A.l ≠ []) : s.q.m = meanL (its A.l) := (h.cen e).eq (its_ne e)
theorem Rep.now {s : Ss} {A : As} (h : Rep s A) : nowQ s.q = nowA A := by
  unfold nowA
  by_cases e : A.l = []
  · rw [nowQ_nil (h.nil.2 e), h.c, if_pos e]
  · rw [h.q.now (fun k => e (h.nil.1 k)), h.mean e, if_neg e]
theorem Rep.f {s : Ss} {A : As} (h : Rep s A) (i : Int) : s.q.f i = (findR A.l i).map itR := by
  cases e : findR A.l i with
  | some a =>
    obtain ⟨h1, h2⟩ := findR_some e
    exact (h.q.f i (itR a)).2 ⟨h.p.mem_iff.2 (List.mem_map_of_mem h1), h2⟩
  | none =>
    cases e' : s.q.f i with
    | none => rfl
    | some b =>
      obtain ⟨h1, h2⟩ := (h.q.f i b).1 e'
      obtain ⟨r, h3, rfl⟩ := List.mem_map.1 (h.p.mem_iff.1 h1)
      have := findR_mem h3
      rw [show idR r = i from h2, e] at this; cases this
theorem Rep.fs {s : Ss} {A : As} (h : Rep s A) (i : Int) : (s.q.f i).isSome = (findR A.l i).isSome := by rw [h.f]; cases findR A.l i <;> rfl
theorem Rep.join {s : Ss} {A : As} (h : Rep s A) (a : IT) : joinE s.q a = joinA A a.1 := by
  unfold joinE joinA
  rw [h.fs, h.len]
  have e1 : baseQ s.q a = baseA A a.1 := by
    unfold baseQ baseA
    rw [h.len, h.now]
    by_cases e : A.l = []
    · rw [if_pos e, e]; rfl
    · rw [if_neg e, decide_eq_false (fun k => e (List.eq_nil_of_length_eq_zero k)), cond_false]
  rw [e1, within_mem (l := plain (s.q.t.list ++ [a])) (l' := its A.l ++ [a.1]) (fun x => by rw [show plain (s.q.t.list ++ [a]) = plain s.q.t.list ++ [a.1] from List.map_append .., List.mem_append, List.mem_append, h.pits.mem_iff])]
theorem Rep.base {s : Ss} {A : As} (h : Rep s A) (a : IT) : (preM s.q a).b = baseA A a.1 := by
  unfold baseA
  by_cases e : A.l = []
  · rw [if_pos e, preM_nil (h.nil.2 e)]
  · rw [if_neg e, preM_ne (fun k => e (h.nil.1 k)), ← h.now, h.q.now (fun k => e (h.nil.1 k))]
theorem rright_i {r : Rq} (h : r.right = true) : r.i.right = true := by
  unfold Rq.right at h
  simp only [Bool.and_eq_true] at h
  exact h.1.1.1
theorem low_mid {m : Mn} {l : List It} (h : Cen m l) (hl : l ≠ []) : (∃ x ∈ l, sn x.p.t m.b ≤ 0) ∧ ∃ x ∈ l, 0 ≤ sn x.p.t m.b := by
  obtain ⟨lo, k⟩ := h.all
  have hw := (k.mid hl).1
  have a0 := h.a0
  have a1 := h.a1
  rw [h.is.a] at a0 a1
  rw [h.is.w] at a1
  constructor
  · refine Classical.byContradiction fun hn => ?_
    have := (sum_rng (b := m.b) (lo := 1) (hi := lo + 4611686018427387904) (l := l) fun x hx => by
      obtain ⟨r1, r2, r3, r4⟩ := (k.2.2 x hx).rng k.1
      exact ⟨r1, r2, by have := Int.not_le.1 (fun e => hn ⟨x, hx, e⟩); omega, r4⟩).1
    omega
  · refine Classical.byContradiction fun hn => ?_
    have := (sum_rng (b := m.b) (lo := lo) (hi := -1) (l := l) fun x hx => by
      obtain ⟨r1, r2, r3, r4⟩ := (k.2.2 x hx).rng k.1
      exact ⟨r1, r2, r3, by have := Int.not_le.1 (fun e => hn ⟨x, hx, e⟩); omega⟩).2.1
    have := List.length_pos_iff.2 hl
    omega
theorem Rep.win {s : Ss} {A : As} (h : Rep s A) {a : IT} (hr : a.1.right = true) (hn : A.l.length ≠ 32) (hw : within (baseA A a.1) (its A.l ++ [a.1]) = true) : ∃ lo, AllW (preM s.q a).b lo (a.1 :: plain s.q.t.list) := by
  have hle := h.le
  rw [h.base]
  have hall : ∀ x ∈ its A.l ++ [a.1], x.In ∧ x.right = true := fun x hx => by
    rcases List.mem_append.1 hx with hx | hx
    · obtain ⟨r, hr', rfl⟩ := List.mem_map.1 hx
      exact ⟨r.2.1, rright_i (h.r r hr')⟩
    · obtain rfl := List.mem_singleton.1 hx; exact ⟨a.2, hr⟩
  have hlen : (its A.l ++ [a.1]).length ≤ 32 := by simp [its]; omega
  have hx : (∃ x ∈ its A.l ++ [a.1], sn x.p.t (baseA A a.1) ≤ 0) ∧ ∃ x ∈ its A.l ++ [a.1], 0 ≤ sn x.p.t (baseA A a.1) := by
    by_cases e : A.l = []
    · have : baseA A a.1 = a.1.p.t := if_pos e
      rw [this]
      exact ⟨⟨a.1, by simp, by rw [sn_self]; omega⟩, ⟨a.1, by simp, by rw [sn_self]; omega⟩⟩
    · obtain ⟨⟨x, k1, k2⟩, ⟨y, k3, k4⟩⟩ := low_mid (h.cen e) (its_ne e)
      have : s.q.m.b = baseA A a.1 := by rw [← h.base a, preM_ne (fun k => e (h.nil.1 k))]
      rw [this] at k2 k4
      exact ⟨⟨x, by simp [k1], k2⟩, ⟨y, by simp [k3], k4⟩⟩
  obtain ⟨lo, k⟩ := win_of hall hw hx.1 hx.2 hlen
  exact ⟨lo, k.perm (List.perm_append_comm.trans (h.pits.symm.cons _))⟩
theorem put_perm {r : RT} : ∀ {l : List RT}, findR l (idR r) = none → (putR r l).Perm (r :: l)
  | [], _ => .refl _
  | a :: l, h => by
    rw [findR_cons] at h
    unfold putR
    split
    · exact .refl _
    · split at h
      · cases h
      · split
        · rename_i k1 k2 k3; exact absurd k3.symm k2
        · exact ((put_perm h).cons a).trans (.swap _ _ _)
theorem Rep.enter {s : Ss} {A : As} (h : Rep s A) (r : RT) : enterE s r = entE A r ∧ Rep (enterS s r) (entA A r) := by
  have he : enterE s r = entE A r := by unfold enterE entE; rw [h.join]; rfl
  refine ⟨he, ?_⟩
  unfold entA
  by_cases e0 : entE A r = 0
  · rw [if_pos e0]
    have hr : r.1.right = true := by
      unfold entE layE at e0
      cases k : r.1.right
      · rw [k] at e0; cases e0
      · rfl
    have hj : joinA A r.1.i = 0 := by unfold entE layE at e0; rw [hr] at e0; exact e0
    have hjq : joinE s.q (itR r) = 0 := by rw [h.join]; exact hj
    unfold joinA at hj
    cases k1 : r.1.i.right with
    | false => rw [k1] at hj; cases hj
    | true =>
    cases k2 : (findR A.l r.1.i.id) with
    | some x => rw [k1, k2] at hj; cases hj
    | none =>
    by_cases k3 : A.l.length = 32
    · rw [k1, k2, decide_eq_true k3] at hj; cases hj
    · cases k4 : within (baseA A r.1.i) (its A.l ++ [r.1.i]) with
      | false => rw [k1, k2, decide_eq_false k3, k4] at hj; cases hj
      | true =>
        obtain ⟨lo, hw⟩ := h.win (a := itR r) k1 k3 k4
        obtain ⟨p1, p2, p3⟩ := h.q.put (a := itR r) (by rw [h.f]; show Option.map itR (findR A.l r.1.i.id) = none; rw [k2]; rfl) hw
        have hE : enterS s r = ⟨putQ s.q (itR r), putR r s.l⟩ := by
          unfold enterS layS joinQ; rw [hr, hjq]; rfl
        rw [hE]
        refine ⟨p1, by rw [h.l], ?_, p3.trans h.c, fun x hx => ?_, ord_put h.o⟩
        · refine p2.trans ?_
          have := (put_perm (r := r) (l := A.l) k2).map itR
          exact ((h.p.cons _).trans this.symm)
        · rcases mem_put hx with rfl | hx
          · exact hr
          · exact h.r x hx
  · rw [if_neg e0]
    have : enterS s r = s := by
      unfold enterS layS
      cases k : r.1.right
      · rfl
      · have : joinE s.q (itR r) ≠ 0 := fun e => e0 (by rw [← he]; unfold enterE layE; rw [k]; exact e)
        unfold joinQ
        rw [decide_eq_false this]; rfl
    rw [this]; exact h
theorem its_sans {l : List RT} {a : RT} (ho : OrdR l) (ha : a ∈ l) : (delR (idR a) l).map itR = RB.sans (itR a) (l.map itR) := by
  unfold delR RB.sans
  rw [List.filter_map]
  congr 1
  refine List.filter_congr fun x hx => ?_
  simp only [Function.comp]
  by_cases e : idR x = idR a
  · have h1 := findR_at ho hx
    have h2 := findR_at ho ha
    rw [e, h2] at h1
    obtain rfl := Option.some.inj h1
    simp
  · have : itR x ≠ itR a := fun k => e (by unfold idR; exact congrArg (fun z : IT => z.1.id) k)
    simp [e, this]
theorem Rep.exit {s : Ss} {A : As} (h : Rep s A) {id : Int} {a : RT} (hf : findR A.l id = some a) : s.q.f id = some (itR a) ∧ CutOk (itR a) s.q.t ∧ Rep (exitS s id) (extA A id) := by
  obtain ⟨h1, h2⟩ := findR_some hf
  have hfq : s.q.f id = some (itR a) := by rw [h.f, hf]; rfl
  have hm : itR a ∈ s.q.t.list := h.p.mem_iff.2 (List.mem_map_of_mem h1)
  obtain ⟨p1, p2, p3, p4, p5⟩ := h.q.cut hm
  have hE : exitS s id = ⟨cutQ s.q (itR a), delR id s.l⟩ := by unfold exitS leaveQ; rw [hfq]
  refine ⟨hfq, p5, ?_⟩
  unfold extA
  rw [hE, hf, h.l]
  refine ⟨p1, rfl, ?_, ?_, fun x hx => h.r x (List.mem_filter.1 hx).1, ord_del h.o⟩
  · show (cutQ s.q (itR a)).t.list.Perm ((delR id A.l).map itR)
    rw [p2, ← h2, its_sans h.o h1]
    unfold RB.sans
    exact h.p.filter _
  · show (cutQ s.q (itR a)).c = nowA A
    rw [p4, h.now]
theorem Rep.new (c : Int) : Rep (newS c) ⟨[], c⟩ := ⟨QI.new c, rfl, .refl _, rfl, by simp, List.Pairwise.nil⟩
end Go.Proofs.YtilajmcellffiaaGreatDoorX

namespace Go.Proofs.YtilajmcellffiaaGreatDoorX
open Go Go.RowKit
open IB (IT ITsAt flatT)
attribute [local irreducible] XS XC XA thenE blockE retE loopE loopS cutB cutN doneE SE
def othT (id : Int) (l : List IT) : List IT := l.filter fun a => decide (a.1.id ≠ id)
theorem othT_snoc (id : Int) (l : List IT) (a : IT) : othT id (l ++ [a]) = if a.1.id = id then othT id l else othT id l ++ [a] := by
  unfold othT
  rw [List.filter_append]
  by_cases h : a.1.id = id
  · rw [if_pos h]; simp [h]
  · rw [if_neg h]; simp [h]
theorem othT_le (id : Int) (l : List IT) : (othT id l).length ≤ l.length := List.length_filter_le _ _
set_option maxHeartbeats 4000000 in
theorem qothers_ret (qb : Nat) (s : Qs) (F : List Nat) (id : Int) (w0 : World) (h : QAt w0 qb s F) (hm : s.t.list.length ≤ 1000000) :
    Ret Tryz.prog 244 #[.pointer (some ⟨qb, 0, none⟩), .int .i64 id] w0 fun v w' => (∃ G, SlV w' 29 7 v (othT id s.t.list).length (flatT (othT id s.t.list)) G ∧ ∀ k ∈ G, w0.heap.size ≤ k) ∧ Only [] w0 w' := by
  have hs := St.nil w0
  refine ret_of_xc Tryz.func244 (by kernel_rfl) rfl Tryz.ntmps244 rfl rfl rfl ?_
  repeat' (first|refine vs (k:=?_)|refine qRg ?_|refine Nx.h ?_|fail)
  have hoa := hs.only0 rfl
  (with_reducible apply xs_call); exact rfl; exact rfl; exact qitems_ret qb s F _ (h.only hoa) hm
  rintro v w1 ⟨⟨Gi, hGi, hGin⟩, ho1⟩
  generalize hl : s.t.list = l at *
  have hD := IB.its_of hGi
  obtain ⟨ad, cap, rfl, hD⟩ := hD
  rw [List.length_map, List.length_map] at hD ⊢
  have hz1 := (hoa.trans ho1).size
  have hoA : Only [] w0 w1 := hoa.trans ho1
  clear hs
  have hs := St.nil w1
  repeat' (first|refine vs (k:=?_)|refine Nx.h ?_|fail)
  refine xc_cutB (fun (v3 : Value) => [(5, v3)]) (fun v3 w => Only [] w1 w ∧ ∃ G, SlV w 29 7 v3 (othT id l).length (flatT (othT id l)) G ∧ ∀ k ∈ G, w1.heap.size ≤ k) ?_ ?_
  · refine xc_loopS (fun (x : Nat × Value) => [(1, .int .i64 id), (5, x.2), (9, .slice ad l.length cap), (10, .int .i64 (l.length : Nat)), (11, .int .i64 (x.1 : Nat))])
      (fun x w => x.1 ≤ l.length ∧ Only [] w1 w ∧ ∃ G, SlV w 29 7 x.2 (othT id (l.take x.1)).length (flatT (othT id (l.take x.1))) G ∧ ∀ k ∈ G, w1.heap.size ≤ k) (fun x => l.length - x.1) (0, .slice none 0 0) (by (repeat (first | exact agree_nil | (apply agree_cons; exact rfl)))) ⟨Nat.zero_le _, hs.only0 rfl, [], .inl ⟨rfl, rfl, rfl, rfl⟩, by simp⟩ fun x env wl ⟨hi, ho0, hT⟩ => ?_
    obtain ⟨i, v5⟩ := x
    simp only at hi hT
    obtain ⟨G, hG, hGn⟩ := hT
    clear hs
    have hs := St.nil wl
    repeat' (first|refine vs (k:=?_)|refine qRg ?_|refine Nx.h ?_|(refine xc_if rfl (fun hc=>?_) (fun hc=>?_))|fail)
    · have hlt : i < l.length := by omega
      obtain ⟨b, off, cs, fz, rfl, _, hb, hcs⟩ := hD (fun h => by have := congrArg List.length h; rw [List.length_map, List.length_map, List.length_nil] at this; omega)
      have hpk := hcs i (It.cells l[i].1) (by rw [List.getElem?_map, List.getElem?_map, List.getElem?_eq_getElem hlt]; rfl)
      have ei := nx64 (m := l.length) hlt (by omega)
      have et : othT id (l.take (i + 1)) = if l[i].1.id = id then othT id (l.take i) else othT id (l.take i) ++ [l[i]] := by rw [take_next hlt, othT_snoc]
      have hlG := hG.lt
      have hle := othT_le id (l.take i)
      rw [List.length_take] at hle
      generalize l[i] = q at *
      generalize othT id (l.take i) = A at *
      refine ix (h0 := (by omega)) (h1 := (by omega)) (k := ?_)
      refine lhK (ho0.block hb (by simp)) hpk (k := ?_)
      repeat' (first|refine vs (k:=?_)|(refine stA hs (k:=?_);intro w hs)|(refine al hs (k:=?_);intro b w hz hs)|(refine bs hs (k:=?_);intro b w hz hs)|refine qRg ?_|refine Nx.h ?_|(refine xc_cond rfl (fun hc=>?_) (fun hc=>?_))|fail)
      · rename_i hne
        have hb2 := hs.get At.head
        have ho2 := hs.only0 rfl
        refine xs_appendW tabOk rfl rfl rfl rfl rfl rfl rfl (by decide) (lit_cells (news := q.1.cells) hb2) (by simp [Value.oneCell']) (hG.keep ho2 (by simp)) (by omega) (by omega) ?_
        intro v5' w4 ⟨G', hG', hGn'⟩ ho4
        have hz4 := ho2.size
        have hz0 := ho0.size
        clear hs
        have hs := St.nil w4
        repeat' (first|refine vs (k:=?_)|refine qRg ?_|refine Nx.h ?_|fail)
        refine loopS_next (i + 1, v5') (by show l.length - (i + 1) < l.length - i; omega) (by (repeat (first | exact agree_nil | (apply agree_cons; first | exact rfl | exact congrArg (Value.int .i64) ei)))) ⟨by show i + 1 ≤ _; omega, ((ho0.trans ho2).news hGn ho4).trans (hs.only0 rfl), G', ?_, ?_⟩
        · simp only [et]
          rw [if_neg (by simpa using hc), List.length_append, IB.flatT_app, show flatT [q] = q.1.cells by simp [flatT]]
          exact hG'.keep (hs.only0 rfl) (by simp)
        · intro k hk
          rcases hGn' k hk with h | h
          · exact hGn k h
          · omega
      · refine loopS_next (i + 1, v5) (by show l.length - (i + 1) < l.length - i; omega) (by (repeat (first | exact agree_nil | (apply agree_cons; first | exact rfl | exact congrArg (Value.int .i64) ei)))) ⟨by show i + 1 ≤ _; omega, ho0.trans (hs.only0 rfl), G, ?_, hGn⟩
        simp only [et]
        rw [if_pos (by simpa using hc)]
        exact hG.keep (hs.only0 rfl) (by simp)
    · have e : i = l.length := by omega
      subst e
      rw [List.take_length] at hG
      exact cutB_exit v5 (by (repeat (first | exact agree_nil | (apply agree_cons; exact rfl)))) ⟨ho0, G, hG, hGn⟩
  · rintro v5 env w ⟨ho0, G, hG, hGn⟩
    clear hs
    have hs := St.nil w
    repeat' (first|refine vs (k:=?_)|refine qRg ?_|refine Nx.h ?_|fail)
    first | refine rt (hq := ?_) | refine rt' (hq := ?_)
    have ho3 := hs.only0 rfl
    exact ⟨⟨G, hG.keep ho3 (by simp), fun k hk => by have := hGn k hk; omega⟩, (hoA.trans ho0).trans ho3⟩
end Go.Proofs.YtilajmcellffiaaGreatDoorX

namespace Go.Proofs.YtilajmcellffiaaGreatDoorX
open Go Go.RowKit
open IB (IT ITsAt flatT)
attribute [local irreducible] XS XC XA thenE blockE retE loopE loopS cutB cutN doneE SE
def anchA : List It → Option Int
  | [] => none
  | x :: l => (ofM x.p.t (places (x :: l))).bind flM
theorem ofL_in : ∀ {l : List Pt} {m o : Mn}, m.In → (∀ p ∈ l, p.In) → ofL m l = some o → o.In
  | [], m, o, h, _, e => by cases e; exact h
  | p :: l, m, o, h, hp, e => by
    simp only [ofL] at e
    cases e1 : addM m p with
    | none => rw [e1] at e; cases e
    | some m' => rw [e1] at e; exact ofL_in (addM_in h e1) (fun q hq => hp q (List.mem_cons_of_mem _ hq)) e
theorem ofM_in {b : Int} {l : List Pt} {o : Mn} (hb : U64 b) (hp : ∀ p ∈ l, p.In) (e : ofM b l = some o) : o.In := ofL_in ⟨hb, inW0, u640, in640⟩ hp e
set_option maxHeartbeats 4000000 in
theorem anchor_ret (l : List It) (sl : Value) (hin : ∀ x ∈ l, x.In) (hm : l.length ≤ 1000000) (w0 : World) (hP : ItsAt w0 sl l) :
    Ret Tryz.prog 245 #[sl] w0 fun v w' => v = tmV (anchA l) ∧ Only [] w0 w' := by
  obtain ⟨ad, cap, rfl, hD⟩ := hP
  rw [List.length_map] at *
  have hs := St.nil w0
  refine ret_of_xc Tryz.func245 (by kernel_rfl) rfl Tryz.ntmps245 rfl rfl rfl ?_
  repeat' (first|refine vs (k:=?_)|refine qRg ?_|refine Nx.h ?_|(refine xc_if rfl (fun hc=>?_) (fun hc=>?_))|fail)
  · obtain rfl : l = [] := List.eq_nil_of_length_eq_zero (by omega)
    first | refine rt (hq := ?_) | refine rt' (hq := ?_)
    exact ⟨rfl, hs.only0 rfl⟩
  · have hl : l ≠ [] := fun e => hc (by rw [e]; rfl)
    refine xc_cutB (fun (v3 : Value) => [(0, .slice ad l.length cap), (4, v3)]) (fun v3 w => Only [] w0 w ∧ ∃ G, SlV w 27 3 v3 l.length (flatP (places l)) G) ?_ ?_
    · refine xc_loopS (fun (x : Nat × Value) => [(0, .slice ad l.length cap), (4, x.2), (12, .slice ad l.length cap), (13, .int .i64 (l.length : Nat)), (14, .int .i64 (x.1 : Nat))])
        (fun x w => x.1 ≤ l.length ∧ Only [] w0 w ∧ ∃ G, SlV w 27 3 x.2 x.1 (flatP (places (l.take x.1))) G ∧ ∀ k ∈ G, w0.heap.size ≤ k) (fun x => l.length - x.1) (0, .slice none 0 0) (by (repeat (first | exact agree_nil | (apply agree_cons; exact rfl)))) ⟨Nat.zero_le _, hs.only0 rfl, [], .inl ⟨rfl, rfl, rfl, rfl⟩, by simp⟩ fun x env wl ⟨hi, ho0, hT⟩ => ?_
      obtain ⟨i, v5⟩ := x
      simp only at hi hT
      obtain ⟨G, hG, hGn⟩ := hT
      clear hs
      have hs := St.nil wl
      repeat' (first|refine vs (k:=?_)|refine qRg ?_|refine Nx.h ?_|(refine xc_if rfl (fun hc=>?_) (fun hc=>?_))|fail)
      · have hlt : i < l.length := by omega
        obtain ⟨b, off, cs, fz, rfl, _, hb, hcs⟩ := hD (fun h => by have := congrArg List.length h; rw [List.length_map, List.length_nil] at this; omega)
        have hpk := hcs i (It.cells l[i]) (by rw [List.getElem?_map, List.getElem?_eq_getElem hlt]; rfl)
        have ei := nx64 (m := l.length) hlt (by omega)
        have et : places (l.take (i + 1)) = places (l.take i) ++ [l[i].p] := by rw [take_next hlt]; unfold places; rw [List.map_append]; rfl
        have hlG := hG.lt
        generalize l[i] = q at *
        generalize places (l.take i) = A at *
        refine ix (h0 := (by omega)) (h1 := (by omega)) (k := ?_)
        refine lhK (ho0.block hb (by simp)) hpk (k := ?_)
        repeat' (first|refine vs (k:=?_)|(refine stA hs (k:=?_);intro w hs)|(refine al hs (k:=?_);intro b w hz hs)|(refine bs hs (k:=?_);intro b w hz hs)|refine qRg ?_|refine Nx.h ?_|fail)
        have hb2 := hs.get At.head
        have ho2 := hs.only0 rfl
        refine xs_appendW tabOk rfl rfl rfl rfl rfl rfl rfl (by decide) (lit_cells (news := q.p.cells) hb2) (by simp [Value.oneCell']) (hG.keep ho2 (by simp)) (by omega) (by omega) ?_
        intro v5' w4 ⟨G', hG', hGn'⟩ ho4
        have hz4 := ho2.size
        have hz0 := ho0.size
        clear hs
        have hs := St.nil w4
        repeat' (first|refine vs (k:=?_)|refine qRg ?_|refine Nx.h ?_|fail)
        refine loopS_next (i + 1, v5') (by show l.length - (i + 1) < l.length - i; omega) (by (repeat (first | exact agree_nil | (apply agree_cons; first | exact rfl | exact congrArg (Value.int .i64) ei)))) ⟨by show i + 1 ≤ _; omega, ((ho0.trans ho2).news hGn ho4).trans (hs.only0 rfl), G', ?_, ?_⟩
        · simp only [et]
          rw [flatP_app, show flatP [q.p] = q.p.cells by simp [flatP]]
          exact hG'.keep (hs.only0 rfl) (by simp)
        · intro k hk
          rcases hGn' k hk with h | h
          · exact hGn k h
          · omega
      · have e : i = l.length := by omega
        subst e
        rw [List.take_length] at hG
        exact cutB_exit v5 (by (repeat (first | exact agree_nil | (apply agree_cons; exact rfl)))) ⟨ho0, G, hG⟩
    · rintro v5 env w ⟨ho0, G, hG⟩
      clear hs
      obtain ⟨x, r, rfl⟩ := List.exists_cons_of_ne_nil hl
      obtain ⟨b, off, cs, fz, rfl, _, hb, hcs⟩ := hD (fun h => by simp at h)
      have hpk := hcs 0 (It.cells x) rfl
      have hx := hin x List.mem_cons_self
      have hP : PsAt w v5 (places (x :: r)) := hG.ls rfl (by simp [places]) (fun y hy => flatP_len _ y hy)
      have hs := St.nil w
      repeat' (first|refine vs (k:=?_)|refine qRg ?_|refine Nx.h ?_|fail)
      refine ix (i := 0) (h0 := by decide) (h1 := by simp) (k := ?_)
      repeat' (first|refine vs (k:=?_)|fail)
      refine lh (v := .int .u64 x.p.t) (ho0.block hb (by simp)) (by cases hpk; assumption) (k := ?_)
      repeat' (first|refine vs (k:=?_)|fail)
      (with_reducible apply xs_call); exact rfl; exact rfl; exact of_mean_ret x.p.t (places (x :: r)) v5 hx.1.1 (fun p hp => by obtain ⟨y, hy, rfl⟩ := List.mem_map.1 hp; exact (hin y hy).1) (by simp [places] at hm ⊢; omega) _ (hP.only (hs.only0 rfl))
      have eA : anchA (x :: r) = (ofM x.p.t (places (x :: r))).bind flM := rfl
      rw [eA]
      cases hM : ofM x.p.t (places (x :: r)) with
      | none =>
        rintro v w' ⟨rfl, ho⟩; replace hs := hs.call0 ho; repeat' (first|refine vs (k:=?_)|(refine stA hs (k:=?_);intro w hs)|(refine al hs (k:=?_);intro b w hz hs)|refine qRg ?_|refine Nx.h ?_|refine qCt ?_|fail)
        first | refine rt (hq := ?_) | refine rt' (hq := ?_)
        exact ⟨rfl, ho0.trans (hs.only0 rfl)⟩
      | some m =>
        have hmi : m.In := ofM_in hx.1.1 (fun p hp => by obtain ⟨y, hy, rfl⟩ := List.mem_map.1 hp; exact (hin y hy).1) hM
        rintro v w' ⟨rfl, ho⟩; replace hs := hs.call0 ho; repeat' (first|refine vs (k:=?_)|(refine stA hs (k:=?_);intro w hs)|(refine al hs (k:=?_);intro b w hz hs)|refine qRg ?_|refine Nx.h ?_|refine qCf ?_|fail)
        (with_reducible apply xs_call); exact rfl; exact rfl; exact floor_ret m hmi _
        rintro v w' ⟨rfl, ho⟩; replace hs := hs.call0 ho; repeat' (first|refine vs (k:=?_)|refine Nx.h ?_|fail)
        first | refine rt (hq := ?_) | refine rt' (hq := ?_)
        exact ⟨rfl, ho0.trans (hs.only0 rfl)⟩
end Go.Proofs.YtilajmcellffiaaGreatDoorX

namespace Go.Proofs.YtilajmcellffiaaGreatDoorX
open Go Go.RowKit
open IB (IT ITsAt flatT)
attribute [local irreducible] XS XC XA thenE blockE retE loopE loopS cutB cutN doneE SE
abbrev RsAt (w : World) (v : Value) (l : List RT) : Prop := LsAt w 31 10 v (l.map fun a => a.1.cells)
theorem rs_of {w : World} {v : Value} {l : List RT} {G : List Nat} (h : SlV w 31 10 v l.length (flatR l) G) : RsAt w v l :=
  h.ls rfl (by simp) (fun x hx => by obtain ⟨a, _, rfl⟩ := List.mem_map.1 hx; rfl)
def runN (l : List RT) : Nat := (l.filter fun a => !a.1.asleep).length
theorem runN_app (a b : List RT) : runN (a ++ b) = runN a + runN b := by simp [runN, List.filter_append]
theorem runN_le (l : List RT) : runN l ≤ l.length := List.length_filter_le _ _
set_option maxHeartbeats 2000000 in
theorem runnable_ret (sb : Nat) (s : Ss) (F : List Nat) (w0 : World) (h : SAt w0 sb s F) (hn : s.l.length ≤ 1000000) :
    Ret Tryz.prog 20 #[.pointer (some ⟨sb, 0, none⟩)] w0 fun v w' => v = .int .i64 (runN s.l : Nat) ∧ Only [] w0 w' := by
  have hs := St.nil w0
  refine ret_of_xc Tryz.func20 (by kernel_rfl) rfl Tryz.ntmps20 rfl rfl rfl ?_
  repeat' (first|refine vs (k:=?_)|refine qRg ?_|refine Nx.h ?_|fail)
  have ho := hs.only0 rfl
  (with_reducible apply xs_call); exact rfl; exact rfl; exact reqs_ret sb s F _ (h.only ho) hn
  rintro v2 w2 ⟨⟨G, hG, _⟩, ho2⟩
  obtain ⟨ad, cap, rfl, hD⟩ := rs_of hG
  rw [List.length_map]
  rw [List.length_map] at hD
  have hoA := ho.trans ho2
  clear hs
  have hs := St.nil w2
  repeat' (first|refine vs (k:=?_)|refine Nx.h ?_|fail)
  refine xc_cutB (fun (_ : Unit) => [(3, .int .i64 (runN s.l : Nat))]) (fun _ w => Only [] w2 w) ?_ ?_
  · refine xc_loopS (fun (x : Nat) => [(3, .int .i64 (runN (s.l.take x) : Nat)), (7, .slice ad s.l.length cap), (8, .int .i64 (s.l.length : Nat)), (9, .int .i64 (x : Nat))])
      (fun x w => x ≤ s.l.length ∧ Only [] w2 w) (fun x => s.l.length - x) 0 (by (repeat (first | exact agree_nil | (apply agree_cons; exact rfl)))) ⟨Nat.zero_le _, hs.only0 rfl⟩ fun i env wl ⟨hi, ho0⟩ => ?_
    clear hs
    have hs := St.nil wl
    repeat' (first|refine vs (k:=?_)|refine qRg ?_|refine Nx.h ?_|(refine xc_if rfl (fun hc=>?_) (fun hc=>?_))|fail)
    · have hlt : i < s.l.length := by omega
      obtain ⟨b, off, cs, fz, rfl, _, hb, hcs⟩ := hD (fun h => by rw [List.map_eq_nil_iff.1 h] at hlt; cases hlt)
      have hpk := hcs i (Rq.cells s.l[i].1) (by rw [List.getElem?_map, List.getElem?_eq_getElem hlt]; rfl)
      have ei := nx64 (m := s.l.length) hlt (by omega)
      have et : runN (s.l.take (i + 1)) = runN (s.l.take i) + bif s.l[i].1.asleep then 0 else 1 := by rw [take_next hlt, runN_app]; congr 1; unfold runN; rw [List.filter_cons, List.filter_nil]; cases s.l[i].1.asleep <;> rfl
      have hle := runN_le (s.l.take i)
      rw [List.length_take] at hle
      have ec := nx64 (i := runN (s.l.take i)) (m := s.l.length + 1) (by omega) (by omega)
      generalize s.l[i] = q at *
      refine ix (h0 := (by omega)) (h1 := (by omega)) (k := ?_)
      refine lhK (ho0.block hb (by simp)) hpk (k := ?_)
      refine al hs (k := ?_); intro b8 w8 hz hs
      repeat' (first|refine vs (k:=?_)|(refine stA hs (k:=?_);intro w hs)|refine qRg ?_|refine Nx.h ?_|(refine xc_cond rfl (fun hc=>?_) (fun hc=>?_))|fail)
      · have eq : q.1.asleep = false := by simpa using ‹(!q.1.asleep) = true›
        rw [eq] at et
        refine loopS_next (i + 1) (by show s.l.length - (i + 1) < s.l.length - i; omega) ?_ ⟨by show i + 1 ≤ _; omega, ho0.trans (hs.only0 rfl)⟩
        rw [et]
        (repeat (first | exact agree_nil | (apply agree_cons; first | exact rfl | exact congrArg (Value.int .i64) ei | exact congrArg (Value.int .i64) ec)))
      · have eq : q.1.asleep = true := by simpa using ‹(!q.1.asleep) = false›
        rw [eq] at et
        refine loopS_next (i + 1) (by show s.l.length - (i + 1) < s.l.length - i; omega) ?_ ⟨by show i + 1 ≤ _; omega, ho0.trans (hs.only0 rfl)⟩
        rw [et]
        (repeat (first | exact agree_nil | (apply agree_cons; first | exact rfl | exact congrArg (Value.int .i64) ei)))
    · have e : i = s.l.length := by omega
      subst e
      rw [List.take_length]
      exact cutB_exit () (by (repeat (first | exact agree_nil | (apply agree_cons; exact rfl)))) ho0
  · rintro _ env w ho0
    clear hs
    have hs := St.nil w
    repeat' (first|refine vs (k:=?_)|refine qRg ?_|refine Nx.h ?_|fail)
    first | refine rt (hq := ?_) | refine rt' (hq := ?_)
    exact ⟨rfl, (hoA.trans ho0).trans (hs.only0 rfl)⟩
end Go.Proofs.YtilajmcellffiaaGreatDoorX

namespace Go.Proofs.YtilajmcellffiaaGreatDoorX
open Go Go.RowKit
open IB (IT ITsAt flatT)
attribute [local irreducible] XS XC XA thenE blockE retE loopE loopS cutB cutN doneE SE
structure Gn where
  id : Int
  lag : Int
  r : Rq
abbrev Gn.cells (g : Gn) : List Value := .int .i64 g.id :: .int .i64 (g.lag / 18446744073709551616) :: .int .u64 (g.lag % 18446744073709551616) :: g.r.cells
def gv (g : Gn) : Value := .agg g.cells.toArray
def Gn.zero : Gn := ⟨0, 0, .zero⟩
def goes (q : Qs) (a : RT) : Bool := a.1.asleep && decide (owedQ q (idR a) ≥ 0)
def gnOf (q : Qs) (a : RT) : Gn := ⟨idR a, lagQ q (idR a), a.1⟩
def nextS (s : Ss) : Option Gn := (s.l.find? (goes s.q)).map (gnOf s.q)
def gnV (o : Option Gn) : Value := .tuple #[gv (o.getD .zero), .bool o.isSome]
theorem find_next {l : List RT} {p : RT → Bool} {i : Nat} (h : i < l.length) (hn : (l.take i).find? p = none) (hp : p l[i] = false) : (l.take (i + 1)).find? p = none := by
  rw [take_next h, List.find?_append, hn, List.find?_singleton, hp]; rfl
theorem find_here {l : List RT} {p : RT → Bool} {i : Nat} (h : i < l.length) (hn : (l.take i).find? p = none) (hp : p l[i] = true) : l.find? p = some l[i] := by
  conv => lhs; rw [← List.take_append_drop i l]
  rw [List.find?_append, hn, List.drop_eq_getElem_cons h, List.find?_cons, hp]; rfl
set_option maxHeartbeats 4000000 in
theorem next_ret (sb : Nat) (s : Ss) (F : List Nat) (w0 : World) (h : SAt w0 sb s F) (hn : s.l.length ≤ 1000000) :
    Ret Tryz.prog 73 #[.pointer (some ⟨sb, 0, none⟩)] w0 fun v w' => v = gnV (nextS s) ∧ Only [] w0 w' := by
  have hS := h
  obtain ⟨qb, mb, Fq, rfl, h1, h2, h3, h4, h5⟩ := h
  have hs := (St.nil w0).track h1 (by simp)
  refine ret_of_xc Tryz.func73 (by kernel_rfl) rfl Tryz.ntmps73 rfl rfl rfl ?_
  refine xc_seq ?_
  refine xc_region ?_ ?_; exact rfl
  refine al hs (k := ?_); intro b2 w hz hs
  have g2 := hs.new (b2, true) (by simp) rfl
  simp only at g2
  repeat' (first|refine vs (k:=?_)|refine qRg ?_|refine Nx.h ?_|fail)
  have ho := hs.onlyF [] (by simp [h1]) (by simp [D0])
  (with_reducible apply xs_call); exact rfl; exact rfl; exact reqs_ret sb s _ _ (hS.only ho) hn
  rintro v2 w2 ⟨⟨G, hG, _⟩, ho2⟩; replace hs := hs.call0 ho2
  have hD := rs_of hG
  obtain ⟨ad, cap, rfl, hD⟩ := hD
  rw [List.length_map]
  rw [List.length_map] at hD
  have hk2 := hs.get At.head
  have hsb2 := hs.get (At.tail At.head)
  have n2s : b2 ≠ sb := by have := lt_of_block h1; omega
  have hoA : Only [] w0 w2 := hs.onlyF [] (by simp [h1]) (by simp [D0])
  have hz2 := hoA.size
  clear hs
  have hs := ((St.nil w2).track hsb2 (by simp)).track hk2 (by simpa using n2s)
  repeat' (first|refine vs (k:=?_)|refine Nx.h ?_|fail)
  refine xc_cutB (fun (_ : Unit) => [(0, .pointer (some ⟨sb, 0, none⟩)), (2, .pointer (some ⟨b2, 0, none⟩))]) (fun _ w => Only [] w2 w ∧ nextS s = none) ?_ ?_
  · refine xc_loopS (fun (x : Nat) => [(0, .pointer (some ⟨sb, 0, none⟩)), (2, .pointer (some ⟨b2, 0, none⟩)), (11, .slice ad s.l.length cap), (12, .int .i64 (s.l.length : Nat)), (13, .int .i64 (x : Nat))])
      (fun x w => x ≤ s.l.length ∧ Only [] w2 w ∧ (s.l.take x).find? (goes s.q) = none) (fun x => s.l.length - x) 0 (by (repeat (first | exact agree_nil | (apply agree_cons; exact rfl)))) ⟨Nat.zero_le _, hs.onlyF [] (by simp [hsb2, hk2]) (by simp [D0]), rfl⟩ fun i env wl ⟨hi, ho0, hnone⟩ => ?_
    clear hs
    have hbl := ho0.block hk2 (by simp)
    have hsl := ho0.block hsb2 (by simp)
    have hs := ((St.nil wl).track hsl (by simp)).track hbl (by simpa using n2s)
    have hSl := hS.only (hoA.trans ho0)
    repeat' (first|refine vs (k:=?_)|refine qRg ?_|refine Nx.h ?_|(refine xc_if rfl (fun hc=>?_) (fun hc=>?_))|fail)
    · have hlt : i < s.l.length := by omega
      obtain ⟨b, off, cs, fz, rfl, _, hb, hcs⟩ := hD (fun h => by rw [List.map_eq_nil_iff.1 h] at hlt; cases hlt)
      have hpk := hcs i (Rq.cells s.l[i].1) (by rw [List.getElem?_map, List.getElem?_eq_getElem hlt]; rfl)
      have ei := nx64 (m := s.l.length) hlt (by omega)
      have eNo := find_next hlt hnone
      have eHe := find_here hlt hnone
      have hin := s.l[i].2.1.2.1
      generalize s.l[i] = q at *
      refine ix (h0 := (by omega)) (h1 := (by omega)) (k := ?_)
      refine lhK (ho0.block hb (by simp)) hpk (k := ?_)
      refine al hs (k := ?_); intro b8 w8 hz hs
      repeat' (first|(refine stA hs (k:=?_);intro w hs)|refine Nx.h ?_|fail)
      refine dr [] hs (k := ?_); intro hX w hs
      refine tk 0 hX (k := ?_)
      refine tk 1 hX (k := ?_)
      refine tk 2 hX (k := ?_)
      refine tk 3 hX (k := ?_)
      refine tk 4 hX (k := ?_)
      refine tk 5 hX (k := ?_)
      refine tk 6 hX (k := ?_)
      refine dt 7 hX (k := ?_)
      have hoB := (hoA.trans ho0).trans (hs.onlyF [] (by simp [hsl, hbl]) (by simp [D0]))
      (with_reducible apply xs_call); exact rfl; exact rfl; exact qowed_ret qb s.q Fq (idR q) _ (h3.only hoB) hin
      generalize hg : owedQ s.q (idR q) = ow
      generalize errN (s.q.f (idR q)).isSome = er
      rintro v w' ⟨rfl, ho⟩; replace hs := hs.call0 ho; repeat' (first|refine Nx.h ?_|fail)
      refine dn (k := ?_)
      refine tk 8 hX (k := ?_)
      refine tk 9 hX (k := ?_)
      refine tk 10 hX (k := ?_)
      refine tk 11 hX (k := ?_)
      refine tk 12 hX (k := ?_)
      refine en (k := ?_)
      repeat' (first|refine vs (k:=?_)|refine ps (k:=?_)|refine qRg ?_|refine Nx.h ?_|refine qCf ?_|((with_reducible apply xs_guard);exact rfl;exact rfl;intro c hc;(fail_if_success have:true=c:=hc);(fail_if_success have:false=c:=hc);cases c)|(refine xc_if rfl (fun hc=>?_) (fun hc=>?_))|fail)
      · have ef : goes s.q q = false := by unfold goes; rw [show q.1.asleep = false by assumption]; rfl
        exact loopS_next (i + 1) (by show s.l.length - (i + 1) < s.l.length - i; omega) (by (repeat (first | exact agree_nil | (apply agree_cons; first | exact rfl | exact congrArg (Value.int .i64) ei)))) ⟨by show i + 1 ≤ _; omega, ho0.trans (hs.onlyF [] (by simp [hsl, hbl]) (by simp [D0])), eNo ef⟩
      · have ef : goes s.q q = true := by unfold goes; rw [show q.1.asleep = true by assumption, hg, decide_eq_true (show ow ≥ 0 by assumption)]; rfl
        have ev : nextS s = some (gnOf s.q q) := by unfold nextS; rw [eHe ef]; rfl
        refine dr [] hs (k := ?_); intro hX w hs
        refine tk 0 hX (k := ?_)
        refine tk 1 hX (k := ?_)
        refine tk 2 hX (k := ?_)
        refine tk 3 hX (k := ?_)
        refine tk 4 hX (k := ?_)
        refine tk 5 hX (k := ?_)
        refine tk 6 hX (k := ?_)
        refine pd0 11 8 hs (k := ?_); intro f X w hp; have hs := hp.st
        apply xa_pend 7 11 (f := f) (X := X) hX hp; exact rfl; exact rfl; (first | (apply makes_alloc tabOk; exact rfl) | (apply makes_slice tabOk; exact rfl; exact rfl; exact rfl; exact rfl; exact rfl; (intro X; ((repeat (first | exact Bld.nil | (apply Bld.one; exact rfl; (conv => lhs; whnf); exact rfl; (repeat (first | exact PutL.nil | apply PutL.skip | apply PutL.cons))) | (apply Bld.agg; exact rfl; exact rfl; exact rfl; (repeat (first | exact PutL.nil | apply PutL.skip | apply PutL.cons))))))))); kernel_rfl; kernel_rfl; kernel_rfl; kernel_rfl; (intro X Y; (repeat (first | exact pgg_base | refine pgg_step ?_ (by exact rfl)))); (intro w' hs; ((first | exact se_hold hs.hold | exact se_hold (hold_sim hs.hold rfl) | exact se_hold (hold_sim hs.hold.tail rfl) | exact se_hold (hR hs rfl) | exact se_hold hs.hold.tail | exact se_hold hs.hold.tail.tail | exact se_hold hs.hold.tail.tail.tail | exact se_done rfl))); intro f X w hp; have hs := hp.st
        have hoC := (hoA.trans ho0).trans (hs.onlyF [] (by simp [hsl, hbl]) (by simp [D0]))
        (with_reducible apply xs_call); exact rfl; exact rfl; exact qlag_ret qb s.q Fq (idR q) _ (h3.only hoC) hin
        rintro v w' ⟨rfl, ho⟩; replace hp := hp.only ho; replace hs := hp.st; repeat' (first|refine Nx.h ?_|fail)
        refine dn (k := ?_)
        refine tk 8 hX (hc := by cases f <;> kernel_rfl) (k := ?_)
        refine tk 9 hX (hc := by cases f <;> kernel_rfl) (k := ?_)
        refine tk 10 hX (hc := by cases f <;> kernel_rfl) (k := ?_)
        apply xa_pendE 11 (f := f) (X := X) hX hp; exact rfl; (first | (apply makes_alloc tabOk; exact rfl) | (apply makes_slice tabOk; exact rfl; exact rfl; exact rfl; exact rfl; exact rfl; (intro X; ((repeat (first | exact Bld.nil | (apply Bld.one; exact rfl; (conv => lhs; whnf); exact rfl; (repeat (first | exact PutL.nil | apply PutL.skip | apply PutL.cons))) | (apply Bld.agg; exact rfl; exact rfl; exact rfl; (repeat (first | exact PutL.nil | apply PutL.skip | apply PutL.cons))))))))); kernel_rfl; kernel_rfl; (intro X Y; (repeat (first | exact pgg_base | refine pgg_step ?_ (by exact rfl)))); (intro w' hs; ((first | exact se_hold hs.hold | exact se_hold (hold_sim hs.hold rfl) | exact se_hold (hold_sim hs.hold.tail rfl) | exact se_hold (hR hs rfl) | exact se_hold hs.hold.tail | exact se_hold hs.hold.tail.tail | exact se_hold hs.hold.tail.tail.tail | exact se_done rfl))); intro b w hI hs
        refine dt 12 hX (k := ?_)
        repeat' (first|(refine stA hs (k:=?_);intro w hs)|refine Nx.h ?_|fail)
        refine dn (k := ?_)
        refine tk 13 hX (k := ?_)
        refine en (k := ?_)
        repeat' (first|refine vs (k:=?_)|(refine stA hs (k:=?_);intro w hs)|refine qRg ?_|refine Nx.h ?_|fail)
        first | refine rt (hq := ?_) | refine rt' (hq := ?_)
        rw [ev]
        exact ⟨rfl, (hoA.trans ho0).step (hs.onlyF [b2] (by simp [hsl]) (by simp [D0])) (fun k hk => .inr (by obtain rfl := List.mem_singleton.1 hk; exact g2))⟩
      · have ef : goes s.q q = false := by unfold goes; rw [hg, decide_eq_false (show ¬ ow ≥ 0 by assumption), Bool.and_false]
        exact loopS_next (i + 1) (by show s.l.length - (i + 1) < s.l.length - i; omega) (by (repeat (first | exact agree_nil | (apply agree_cons; first | exact rfl | exact congrArg (Value.int .i64) ei)))) ⟨by show i + 1 ≤ _; omega, ho0.trans (hs.onlyF [] (by simp [hsl, hbl]) (by simp [D0])), eNo ef⟩
    · have e : i = s.l.length := by omega
      subst e
      rw [List.take_length] at hnone
      exact cutB_exit () (by (repeat (first | exact agree_nil | (apply agree_cons; exact rfl)))) ⟨ho0, by unfold nextS; rw [hnone]; rfl⟩
  · rintro _ env w ⟨ho0, hnone⟩
    clear hs
    have hbl := ho0.block hk2 (by simp)
    have hs := (St.nil w).track hbl (by simp)
    repeat' (first|refine vs (k:=?_)|(refine stA hs (k:=?_);intro w hs)|refine qRg ?_|refine Nx.h ?_|fail)
    first | refine rt (hq := ?_) | refine rt' (hq := ?_)
    rw [hnone]
    exact ⟨rfl, (hoA.trans ho0).step (hs.onlyF [b2] (by simp) (by simp [D0])) (fun k hk => .inr (by obtain rfl := List.mem_singleton.1 hk; exact g2))⟩
end Go.Proofs.YtilajmcellffiaaGreatDoorX

namespace Go.Proofs.YtilajmcellffiaaGreatDoorX
open Go Go.RowKit
open IB (IT ITsAt flatT)
attribute [local irreducible] XS XC XA thenE blockE retE loopE loopS cutB cutN doneE SE
inductive Flushes : Ss → List Gn → Ss → Prop
  | done {s : Ss} : nextS s = none → Flushes s [] s
  | step {s s' : Ss} {g : Gn} {l : List Gn} {a : IT} : nextS s = some g → s.q.f g.id = some a → CutOk a s.q.t → Flushes (exitS s g.id) l s' → Flushes s (g :: l) s'
def flatG (l : List Gn) : List Value := (l.map Gn.cells).flatten
theorem flatG_snoc (l : List Gn) (g : Gn) : flatG (l ++ [g]) = flatG l ++ g.cells := by simp [flatG]
theorem next_id {s : Ss} {g : Gn} (h : nextS s = some g) : In64 g.id := by
  obtain ⟨a, _, rfl⟩ := Option.map_eq_some_iff.1 h
  exact a.2.1.2.1
theorem cutT_len {a : IT} {t : RB IT} (h : CutOk a t) : (cutT a t).list.length ≤ t.list.length := by
  unfold cutT
  cases e : RB.has IB.ltT a t
  · exact Nat.le_refl _
  · have := (h e).2
    rw [cond_true, RB.list_blacken]
    omega
theorem exit_small {s : Ss} {id : Int} {a : IT} (hf : s.q.f id = some a) (hc : CutOk a s.q.t) (ho : OrdR s.l) : (exitS s id).l.length ≤ s.l.length ∧ (exitS s id).q.t.list.length ≤ s.q.t.list.length := by
  constructor
  · show (delR id s.l).length ≤ _
    rw [len_del ho]
    split <;> omega
  · show (leaveQ s.q id).t.list.length ≤ _
    unfold leaveQ
    rw [hf]
    exact cutT_len hc
theorem SAt.ord {w : World} {sb : Nat} {s : Ss} {F : List Nat} (h : SAt w sb s F) : OrdR s.l := by obtain ⟨qb, mb, Fq, rfl, h1, h2, h3, h4, h5⟩ := h; exact h5
theorem slv_set {w : World} {e k n : Nat} {v : Value} {xs : List Value} {G F : List Nat} {sb : Nat} {s : Ss} (h : SlV w e k v n xs G) (hS : SAt w sb s F) (ho : okS (.cells #[] e (0, 0)) = true) : ∀ b ∈ G, b ∉ F := fun b hb => by
  rcases h with ⟨_, _, _, rfl⟩ | ⟨g, cap, cur, _, rfl, _, _, _, _, hg⟩
  · cases hb
  · obtain rfl := List.mem_singleton.1 hb
    exact hS.not hg ho
set_option maxHeartbeats 4000000 in
theorem flush_ret (sb : Nat) (s s' : Ss) (l : List Gn) (F : List Nat) (w0 : World) (h : SAt w0 sb s F) (hn : s.l.length ≤ 1000000) (hq : s.q.t.list.length ≤ 1000000) (hl : l.length ≤ 1000000) (hF : Flushes s l s') :
    Ret Tryz.prog 24 #[.pointer (some ⟨sb, 0, none⟩)] w0 fun v w' => (∃ G, SlV w' 140 13 v l.length (flatG l) G ∧ ∀ k ∈ G, w0.heap.size ≤ k) ∧ ∃ F', SAt w' sb s' F' ∧ (∀ k ∈ F', k ∈ F ∨ w0.heap.size ≤ k) ∧ Only F w0 w' := by
  have hs := St.nil w0
  refine ret_of_xc Tryz.func24 (by kernel_rfl) rfl Tryz.ntmps24 rfl rfl rfl ?_
  repeat' (first|refine vs (k:=?_)|refine qRg ?_|refine Nx.h ?_|fail)
  refine xc_cutB (fun (_ : Unit) => []) (fun _ _ => False) ?_ ?_
  · refine xc_loopS (fun (x : List Gn × List Gn × Value × Ss × List Nat) => [(0, .pointer (some ⟨sb, 0, none⟩)), (3, x.2.2.1)])
      (fun x w => x.2.1 ++ x.1 = l ∧ Flushes x.2.2.2.1 x.1 s' ∧ x.2.2.2.1.l.length ≤ 1000000 ∧ x.2.2.2.1.q.t.list.length ≤ 1000000 ∧ (∃ G, SlV w 140 13 x.2.2.1 x.2.1.length (flatG x.2.1) G ∧ ∀ k ∈ G, w0.heap.size ≤ k) ∧ SAt w sb x.2.2.2.1 x.2.2.2.2 ∧ (∀ k ∈ x.2.2.2.2, k ∈ F ∨ w0.heap.size ≤ k) ∧ Only F w0 w)
      (fun x => x.1.length) (l, [], .slice none 0 0, s, F) (by (repeat (first | exact agree_nil | (apply agree_cons; exact rfl)))) ⟨rfl, hF, hn, hq, ⟨[], .inl ⟨rfl, rfl, rfl, rfl⟩, by simp⟩, h, fun k hk => .inl hk, (hs.only0 rfl).weaken (by simp)⟩ fun x env wl hI => ?_
    obtain ⟨r, acc, v3, s1, F1⟩ := x
    simp only at hI
    obtain ⟨hacc, hFl, hn1, hq1, ⟨G, hG, hGn⟩, hS1, hF1, ho0⟩ := hI
    clear hs
    have hs := St.nil wl
    have hsz := ho0.size
    have hal : acc.length ≤ 1000000 := by rw [← hacc, List.length_append] at hl; omega
    repeat' (first|refine vs (k:=?_)|refine qRg ?_|refine Nx.h ?_|fail)
    (with_reducible apply xs_call); exact rfl; exact rfl; exact next_ret sb s1 F1 _ hS1 hn1
    cases hFl with
    | done hnx =>
      rw [hnx]
      rintro v w' ⟨rfl, ho⟩; replace hs := hs.call0 ho; repeat' (first|refine vs (k:=?_)|(refine stA hs (k:=?_);intro w hs)|(refine al hs (k:=?_);intro b w hz hs)|refine qRg ?_|refine Nx.h ?_|refine qCt ?_|fail)
      first | refine rt (hq := ?_) | refine rt' (hq := ?_)
      rw [List.append_nil] at hacc
      subst hacc
      exact ⟨⟨G, hG.keep (hs.only0 rfl) (by simp), hGn⟩, F1, hS1.only (hs.only0 rfl), hF1, ho0.step (hs.only0 rfl) (by simp)⟩
    | step hnx hf hc hFl' =>
      rename_i g r' a
      rw [hnx]
      have hid := next_id hnx
      have hsm := exit_small hf hc hS1.ord
      rintro v w' ⟨rfl, ho⟩; replace hs := hs.call0 ho; repeat' (first|refine vs (k:=?_)|(refine stA hs (k:=?_);intro w hs)|(refine al hs (k:=?_);intro b w hz hs)|refine qRg ?_|refine Nx.h ?_|refine qCf ?_|fail)
      have hoN := hs.only0 rfl
      have hSN := hS1.only hoN
      have hapart := hSN.apart hs rfl
      (with_reducible apply xs_call); exact rfl; exact rfl; exact exit_ret sb s1 F1 g.id _ hSN hid hq1 a hf hc
      rintro v wE ⟨rfl, F2, hS2, hF2, hoE⟩
      replace hs := hs.call hoE hapart (by simp [D0])
      have k4 := hs.get At.head
      have hG1 := hG.keep hoN (by simp)
      have hG2 := hG1.keep hoE (slv_set hG1 hSN rfl)
      have hzN := hoN.size
      have hzE := hoE.size
      have hoA : Only F w0 wE := (ho0.step hoN (by simp)).step hoE hF1
      have hF2' : ∀ k ∈ F2, k ∈ F ∨ w0.heap.size ≤ k := fun k hk => by
        rcases hF2 k hk with h | h
        · exact hF1 k h
        · exact .inr (by omega)
      clear hs
      have hs := (St.nil wE).track k4 (by simp)
      refine XS.nil ?_
      refine then_of ?_
      repeat' (first|refine vs (k:=?_)|(refine bs hs (k:=?_);intro b w hz hs)|refine qRg ?_|fail)
      have hb20 := hs.get At.head
      have hoB := hs.onlyF [] (by simp [k4]) (by simp [D0])
      have hzB := hoB.size
      have hGB := hG2.keep hoB (by simp)
      have hSB := hS2.only hoB
      refine xs_appendW tabOk rfl rfl rfl rfl rfl rfl rfl (by decide) (lit_cells (news := g.cells) hb20) (by simp [Value.oneCell']) hGB (by omega) (by omega) ?_
      intro v5 w5 ⟨G', hG', hGn'⟩ ho5
      have hS5 := hSB.keepD ho5 (fun k hk hm => slv_set hGB hSB rfl k hm hk)
      clear hs
      have hs := St.nil w5
      repeat' (first|refine vs (k:=?_)|refine Nx.h ?_|fail)
      refine loopS_next (r', acc ++ [g], v5, exitS s1 g.id, F2) (by show r'.length < (g :: r').length; simp) (by (repeat (first | exact agree_nil | (apply agree_cons; exact rfl)))) ⟨by show (acc ++ [g]) ++ r' = l; rw [List.append_assoc]; exact hacc, hFl', by show (exitS s1 g.id).l.length ≤ _; omega, by show (exitS s1 g.id).q.t.list.length ≤ _; omega, ⟨G', ?_, ?_⟩, hS5.only (hs.only0 rfl), hF2', ((hoA.step hoB (by simp)).step ho5 (fun k hk => .inr (hGn k hk))).step (hs.only0 rfl) (by simp)⟩
      · simp only [List.length_append, List.length_cons, List.length_nil, flatG_snoc]
        exact hG'.keep (hs.only0 rfl) (by simp)
      · intro k hk
        rcases hGn' k hk with h | h
        · exact hGn k h
        · omega
  · rintro _ _ _ hI
    exact hI.elim
end Go.Proofs.YtilajmcellffiaaGreatDoorX

namespace Go.Proofs.YtilajmcellffiaaGreatDoorX
open Go Go.RowKit
open IB (IT ITsAt flatT)
attribute [local irreducible] XS XC XA thenE blockE retE loopE loopS cutB cutN doneE SE
def chBase (s : Qs) (a : IT) : Int := (anchA (plain (othT a.1.id s.t.list))).getD a.1.p.t
def chE (s : Qs) (a : IT) : Int :=
  bif !a.1.right then 2 else bif !(s.f a.1.id).isSome then 14 else bif !within (chBase s a) (plain (othT a.1.id s.t.list ++ [a])) then 8 else 0
def swapQ (s : Qs) (o a : IT) : Qs := { putQ (cutQ s o) a with c := s.c }
def chQ (s : Qs) (a : IT) : Qs := bif decide (chE s a = 0) then (match s.f a.1.id with | some o => swapQ s o a | none => s) else s
theorem vals_getO (f : Int → Option IT) (i : Int) : (vals f i).getD (iv .zero) = iv (IB.valO (f i)) := by unfold vals; cases f i <;> rfl
set_option maxHeartbeats 4000000 in
theorem qchange_ret (qb : Nat) (s : Qs) (F : List Nat) (a : IT) (w0 : World) (h : QAt w0 qb s F) (hlen : s.t.list.length + 1 ≤ 1000000) (hn : s.n < 1000000) (hd : ∀ o, s.f a.1.id = some o → CutOk o s.t) :
    Ret Tryz.prog 240 #[.pointer (some ⟨qb, 0, none⟩), iv a.1] w0 fun v w' => v = .int .i64 (chE s a) ∧ ∃ F', QAt w' qb (chQ s a) F' ∧ (∀ k ∈ F', k ∈ F ∨ w0.heap.size ≤ k) ∧ Only F w0 w' := by
  have hq := h
  obtain ⟨tb, mb, Ft, rfl, h1, h2, h3, h4, h5⟩ := h
  have hs := (St.nil w0).track h1 (by simp)
  have same : ∀ w', Only [] w0 w' → ∃ F', QAt w' qb s F' ∧ (∀ k ∈ F', k ∈ qb :: mb :: Ft ∨ w0.heap.size ≤ k) ∧ Only (qb :: mb :: Ft) w0 w' := fun w' ho => ⟨_, hq.only ho, fun k hk => .inl hk, ho.weaken (by simp)⟩
  refine ret_of_xc Tryz.func240 (by kernel_rfl) rfl Tryz.ntmps240 rfl rfl rfl ?_; refine xc_seq ?_; refine xc_region ?_ ?_; exact rfl; refine bx hs (k := ?_); intro bq wq hzq hs; repeat' (first|refine vs (k:=?_)|refine qRg ?_|refine Nx.h ?_|refine qCf ?_|fail)
  have hbq := hs.new (bq, true) (by simp) rfl
  simp only at hbq
  refine dr [] hs (k := ?_); intro hX w hs
  refine tk 0 hX (k := ?_)
  refine tk 1 hX (k := ?_)
  refine tk 2 hX (k := ?_)
  refine tk 3 hX (k := ?_)
  refine tk 4 hX (k := ?_)
  refine tk 5 hX (k := ?_)
  refine pd0 10 5 hs (k := ?_); intro f X w hp; have hs := hp.st
  apply xa_pend 6 10 (f := f) (X := X) hX hp; exact rfl; exact rfl; (first | (apply makes_alloc tabOk; exact rfl) | (apply makes_slice tabOk; exact rfl; exact rfl; exact rfl; exact rfl; exact rfl; (intro X; ((repeat (first | exact Bld.nil | (apply Bld.one; exact rfl; (conv => lhs; whnf); exact rfl; (repeat (first | exact PutL.nil | apply PutL.skip | apply PutL.cons))) | (apply Bld.agg; exact rfl; exact rfl; exact rfl; (repeat (first | exact PutL.nil | apply PutL.skip | apply PutL.cons))))))))); kernel_rfl; kernel_rfl; kernel_rfl; kernel_rfl; (intro X Y; (repeat (first | exact pgg_base | refine pgg_step ?_ (by exact rfl)))); (intro w' hs; ((first | exact se_hold hs.hold | exact se_hold (hold_sim hs.hold rfl) | exact se_hold (hold_sim hs.hold.tail rfl) | exact se_hold (hR hs rfl) | exact se_hold hs.hold.tail | exact se_hold hs.hold.tail.tail | exact se_hold hs.hold.tail.tail.tail | exact se_done rfl))); intro f X w hp; have hs := hp.st
  have ho := hs.onlyF [] (by simp [h1]) (by simp [D0])
  refine xs_look (e := 29) (z := iv .zero) (h2.keep ho (by simp)) a.2.2.1 (by kernel_rfl) (by kernel_rfl) (k := ?_)
  rw [vals_getO, vals_isSome]
  generalize hx : IB.valO (s.f a.1.id) = x
  repeat' (first|refine Nx.h ?_|fail)
  refine dn (k := ?_)
  refine tk 7 hX (hc := by cases f <;> kernel_rfl) (k := ?_)
  refine tk 8 hX (hc := by cases f <;> kernel_rfl) (k := ?_)
  refine tk 9 hX (hc := by cases f <;> kernel_rfl) (k := ?_)
  apply xa_pendE 10 (f := f) (X := X) hX hp; exact rfl; (first | (apply makes_alloc tabOk; exact rfl) | (apply makes_slice tabOk; exact rfl; exact rfl; exact rfl; exact rfl; exact rfl; (intro X; ((repeat (first | exact Bld.nil | (apply Bld.one; exact rfl; (conv => lhs; whnf); exact rfl; (repeat (first | exact PutL.nil | apply PutL.skip | apply PutL.cons))) | (apply Bld.agg; exact rfl; exact rfl; exact rfl; (repeat (first | exact PutL.nil | apply PutL.skip | apply PutL.cons))))))))); kernel_rfl; kernel_rfl; (intro X Y; (repeat (first | exact pgg_base | refine pgg_step ?_ (by exact rfl)))); (intro w' hs; ((first | exact se_hold hs.hold | exact se_hold (hold_sim hs.hold rfl) | exact se_hold (hold_sim hs.hold.tail rfl) | exact se_hold (hR hs rfl) | exact se_hold hs.hold.tail | exact se_hold hs.hold.tail.tail | exact se_hold hs.hold.tail.tail.tail | exact se_done rfl))); intro b w hI hs
  refine dt 11 hX (k := ?_)
  repeat' (first|(refine stA hs (k:=?_);intro w hs)|refine Nx.h ?_|fail)
  refine dn (k := ?_)
  refine tk 12 hX (k := ?_)
  refine en (k := ?_)
  repeat' (first|refine vs (k:=?_)|refine qRg ?_|refine Nx.h ?_|fail)
  have hb5 := hs.new _ List.mem_cons_self rfl
  simp only at hb5
  have ho := hs.onlyF [] (by simp [h1]) (by simp [D0])
  have lb5 := lt_of_block (hs.get At.head)
  have lbq := lt_of_block (hs.get (At.tail At.head))
  have lqb := lt_of_block (hs.get (At.tail (At.tail At.head)))
  (with_reducible apply xs_call); exact rfl; exact rfl; exact qothers_ret qb s _ a.1.id _ (hq.only ho) (by omega)
  rintro v1 w1 ⟨⟨G, hG, hGn⟩, ho1⟩; replace hs := hs.call0 ho1
  have hz := ho.size
  have hGn' : ∀ k ∈ G, w0.heap.size ≤ k := fun k hk => by have := hGn k hk; omega
  have hGne : ∀ k ∈ G, k ≠ b ∧ k ≠ bq ∧ k ≠ qb := fun k hk => by have := hGn k hk; omega
  have hoA := hs.onlyF [] (by simp [h1]) (by simp [D0])
  have c1 := hs.get At.head
  have c2 := hs.get (At.tail At.head)
  have c3 := hs.get (At.tail (At.tail At.head))
  have hnd := hs.nd
  simp only [List.map_cons, List.nodup_cons, List.mem_cons, List.map_nil, List.not_mem_nil, or_false, not_or] at hnd
  have hle := othT_le a.1.id s.t.list
  have hL : ItsAt w1 v1 (plain (othT a.1.id s.t.list)) := IB.its_of hG
  clear hs
  have hs := (((St.nil w1).track c3 (by simp)).track c2 (by simpa using hnd.2.1)).track c1 (by simp [hnd.1.1, hnd.1.2])
  have e0 : chBase s a = (anchA (plain (othT a.1.id s.t.list))).getD a.1.p.t := rfl
  have eE : chE s a = bif !a.1.right then 2 else bif !(s.f a.1.id).isSome then 14 else bif !within (chBase s a) (plain (othT a.1.id s.t.list ++ [a])) then 8 else 0 := rfl
  generalize chBase s a = B at *
  generalize hO : othT a.1.id s.t.list = O at *
  repeat' (first|refine vs (k:=?_)|refine qRg ?_|refine Nx.h ?_|fail)
  have ho2 := hs.onlyF [] (by simp [c1, c2, c3]) (by simp [D0])
  (with_reducible apply xs_call); exact rfl; exact rfl; exact anchor_ret (plain O) v1 (fun x hx => by obtain ⟨y, _, rfl⟩ := List.mem_map.1 hx; exact y.2) (by simp [plain]; omega) _ (hL.only ho2)
  rintro v2 w2 ⟨rfl, ho⟩; replace hs := hs.call0 ho
  refine vs (k := ?_)
  refine vs (k := ?_)
  refine vs (k := ?_)
  refine vs (k := ?_)
  refine vs (k := ?_)
  refine XS.nil ?_
  refine then_of ?_
  refine xc_seq ?_
  refine xc_cutN (fun _ : Unit => [(0, .pointer (some ⟨qb, 0, none⟩)), (3, .pointer (some ⟨bq, 0, none⟩)), (4, .int .i64 0), (5, .pointer (some ⟨b, 0, none⟩)), (6, .bool (s.f a.1.id).isSome), (7, v1), (8, .int .u64 B)]) (fun _ w => St w1 D0 [(b, itQ x, false), (bq, itQ a.1, false), (qb, queueO s.m tb mb s.c, false)] w) ?_ ?_
  · cases hA : anchA (plain O) with
    | none =>
      rw [hA] at e0
      rw [e0]
      repeat' (first|refine vs (k:=?_)|refine qRg ?_|refine Nx.h ?_|refine qCt ?_|fail)
      exact cutN_normal () (by (repeat (first | exact agree_nil | (apply agree_cons; exact rfl)))) hs
    | some t =>
      rw [hA] at e0
      rw [e0]
      repeat' (first|refine vs (k:=?_)|refine qRg ?_|refine Nx.h ?_|refine qCf ?_|fail)
      exact cutN_normal () (by (repeat (first | exact agree_nil | (apply agree_cons; exact rfl)))) hs
  clear hs ho
  rintro _ env w hs
  repeat' (first|refine vs (k:=?_)|refine qRg ?_|refine Nx.h ?_|fail)
  (with_reducible apply xs_call); exact rfl; exact rfl; exact iright_ret a.1 _
  have chq : ∀ n, chE s a = n → n ≠ 0 → chQ s a = s := fun n e hn => by unfold chQ; rw [e, decide_eq_false hn]; rfl
  rintro v w' ⟨rfl, ho⟩; replace hs := hs.call0 ho; repeat' (first|refine vs (k:=?_)|(refine bs hs (k:=?_);intro b w hz hs)|refine qRg ?_|refine Nx.h ?_|(refine xc_cond rfl (fun hc=>?_) (fun hc=>?_))|fail)
  · first | refine rt (hq := ?_) | refine rt' (hq := ?_)
    have ho := hs.onlyF [] (by simp [c1, c2, c3]) (by simp [D0])
    have e : chE s a = 2 := by rw [eE, show (!a.1.right) = true by simpa using hc]; rfl
    refine ⟨by rw [e]; rfl, ?_⟩
    rw [chq 2 e (by decide)]
    exact same _ (hoA.trans ho)
  · first | refine rt (hq := ?_) | refine rt' (hq := ?_)
    have ho := hs.onlyF [] (by simp [c1, c2, c3]) (by simp [D0])
    have e : chE s a = 14 := by rw [eE, show (!a.1.right) = false by assumption, hc]; rfl
    refine ⟨by rw [e]; rfl, ?_⟩
    rw [chq 14 e (by decide)]
    exact same _ (hoA.trans ho)
  · have r1 : (!a.1.right) = false := by assumption
    have r2 : (s.f a.1.id).isSome = true := by simpa using hc
    obtain ⟨o, hf⟩ := Option.isSome_iff_exists.1 r2
    rw [hf] at hx
    obtain rfl : o.1 = x := hx
    rw [r1, r2] at eE
    have hb4 := hs.get At.head
    have ho4 := hs.onlyF [] (by simp [c1, c2, c3]) (by simp [D0])
    refine xs_appendW tabOk rfl rfl rfl rfl rfl rfl rfl (by decide) (lit_cells (news := a.1.cells) hb4) (by simp [Value.oneCell']) (hG.keep ho4 (by simp)) (by omega) (by omega) ?_
    intro v2 w2 ⟨G', hG2, hG2'⟩ ho3
    have hoB : Only [] w0 w2 := (hoA.trans ho4).news hGn' ho3
    have d1 := ho3.block (hs.get (At.tail At.head)) (fun hm => (hGne _ hm).1 rfl)
    have d2 := ho3.block (hs.get (At.tail (At.tail At.head))) (fun hm => (hGne _ hm).2.1 rfl)
    have d3 := ho3.block (hs.get (At.tail (At.tail (At.tail At.head)))) (fun hm => (hGne _ hm).2.2 rfl)
    have hL2 : ItsAt w2 v2 (plain (O ++ [a])) := IB.its_of (G := G') (by
      rw [IB.flatT_app, List.length_append]
      exact hG2)
    clear hs
    have hs := (((St.nil w2).track d3 (by simp)).track d2 (by simpa using hnd.2.1)).track d1 (by simp [hnd.1.1, hnd.1.2])
    skip
    have ho5 := hs.onlyF [] (by simp [d1, d2, d3]) (by simp [D0])
    (with_reducible apply xs_call); exact rfl; exact rfl; exact within_ret B (plain (O ++ [a])) v2 (by simp [plain]; omega) _ (hL2.only ho5)
    generalize hwi : within B (plain (O ++ [a])) = wi
    rw [hwi] at eE
    cases wi
    · rintro v w' ⟨rfl, ho⟩; replace hs := hs.call0 ho; repeat' (first|refine vs (k:=?_)|refine qRg ?_|refine Nx.h ?_|refine qCt ?_|fail)
      first | refine rt (hq := ?_) | refine rt' (hq := ?_)
      have ho := hs.onlyF [] (by simp [d1, d2, d3]) (by simp [D0])
      refine ⟨by rw [eE]; rfl, ?_⟩
      rw [chq 8 eE (by decide)]
      exact same _ (hoB.trans ho)
    · have hQ : chQ s a = swapQ s o a := by unfold chQ; rw [eE, hf]; rfl
      rintro v w' ⟨rfl, ho⟩; replace hs := hs.call0 ho; repeat' (first|refine vs (k:=?_)|refine qRg ?_|refine Nx.h ?_|refine qCf ?_|fail)
      have ho := hs.onlyF [] (by simp [d1, d2, d3]) (by simp [D0])
      have hoC := hoB.trans ho
      have hqC := hq.only hoC
      have hzC := hoC.size
      (with_reducible apply xs_call); exact rfl; exact rfl; exact qcut_ret qb s _ o _ hqC (by omega) (hd o hf)
      rintro v3 w3 ⟨F1, hA1, hF1, ho6⟩
      have q2 := ho6.block (hs.get (At.tail At.head)) (hqC.not (hs.get (At.tail At.head)) (by decide) (by decide) (by decide))
      have hlenc : (cutQ s o).t.list.length ≤ s.t.list.length := cutT_len (hd o hf)
      have hnc : (cutQ s o).n ≤ s.n := by show (if (s.f o.1.id).isSome then s.n - 1 else s.n) ≤ s.n; split <;> omega
      have hoD : Only (qb :: mb :: Ft) w0 w3 := (hoC.weaken (by simp)).step ho6 (fun k hk => .inl hk)
      have hzD := hoD.size
      clear hs
      have hs := (St.nil w3).track q2 (by simp)
      repeat' (first|refine vs (k:=?_)|refine qRg ?_|refine Nx.h ?_|fail)
      have ho7 := hs.onlyF [] (by simp [q2]) (by simp [D0])
      have hA2 := hA1.only ho7
      have hz7 := ho7.size
      (with_reducible apply xs_call); exact rfl; exact rfl; exact qput_ret qb (cutQ s o) F1 a _ hA2 (by omega) (by omega)
      rintro v4 w4 ⟨F2, hA3, hF2, ho8⟩
      obtain ⟨tb', mb', Ft', rfl, g1, g2, g3, g4, g5⟩ := hA3
      have hoE : Only (qb :: mb :: Ft) w0 w4 := (hoD.step ho7 (by simp)).step ho8 (fun k hk => by
        rcases hF1 k hk with h | h
        · exact .inl h
        · exact .inr (by omega))
      have hQP : QP w4 qb tb' mb' Ft' (putQ (cutQ s o) a) := ⟨g1, g2, g3⟩
      clear hs
      have hs := (St.nil w4).track g1 (by simp)
      repeat' (first|refine vs (k:=?_)|(refine st hs (k:=?_);intro w hs)|refine qRg ?_|refine Nx.h ?_|fail)
      first | refine rt (hq := ?_) | refine rt' (hq := ?_)
      have ho9 : Only [qb] w4 _ := hs.onlyF [qb] (by simp) (by simp [D0])
      have hP := hQP.own ho9 (hs.get At.head)
      refine ⟨by rw [eE]; rfl, ?_⟩
      rw [hQ]
      refine ⟨qb :: mb' :: Ft', ⟨tb', mb', Ft', rfl, hP.q, hP.M, hP.T, g4, h5⟩, fun k hk => ?_, hoE.step ho9 (fun k hk => .inl (by obtain rfl := List.mem_singleton.1 hk; simp))⟩
      rcases hF2 k hk with h | h
      · rcases hF1 k h with h | h
        · exact .inl h
        · exact .inr (by omega)
      · exact .inr (by omega)
end Go.Proofs.YtilajmcellffiaaGreatDoorX

namespace Go.Proofs.YtilajmcellffiaaGreatDoorX
open Go Go.RowKit
open IB (IT ITsAt flatT)
attribute [local irreducible] XS XC XA thenE blockE retE loopE loopS cutB cutN doneE SE
theorem put1_ret (qb : Nat) (s : Qs) (F : List Nat) (r : RT) (w0 : World) (h : QAt w0 qb s F) (hlen : s.t.list.length + 1 ≤ 1000000) (hn : s.n < 1000000) (hd : ∀ o, s.f (itR r).1.id = some o → CutOk o s.t) :
    Ret Tryz.prog 239 #[.pointer (some ⟨qb, 0, none⟩), rv r.1] w0 fun v w' => v = .int .i64 (chE s (itR r)) ∧ ∃ F', QAt w' qb (chQ s (itR r)) F' ∧ (∀ k ∈ F', k ∈ F ∨ w0.heap.size ≤ k) ∧ Only F w0 w' := by
  have hs := St.nil w0
  refine ret_of_xc Tryz.func239 (by kernel_rfl) rfl Tryz.ntmps239 rfl rfl rfl ?_
  repeat' (first|refine vs (k:=?_)|(refine bx hs (k:=?_);intro b w hz hs)|refine qRg ?_|refine Nx.h ?_|fail)
  have ho := hs.only0 rfl
  (with_reducible apply xs_call); exact rfl; exact rfl; exact qchange_ret qb s F (itR r) _ (h.only ho) hlen hn hd
  rintro v w1 ⟨rfl, F', hA, hF', ho1⟩
  have hz := ho.size
  clear hs
  have hs := St.nil w1
  repeat' (first|refine vs (k:=?_)|refine Nx.h ?_|fail)
  first | refine rt (hq := ?_) | refine rt' (hq := ?_)
  exact ⟨rfl, F', hA.only (hs.only0 rfl), fun k hk => by rcases hF' k hk with h | h; exact .inl h; exact .inr (by omega), ((ho.weaken (by simp)).step ho1 (fun k hk => .inl hk)).step (hs.only0 rfl) (by simp)⟩
def putE' (s : Ss) (r : RT) : Int := layE r.1 (chE s.q (itR r))
def putS (s : Ss) (r : RT) : Ss := layS s r (chE s.q (itR r)) (chQ s.q (itR r))
theorem sput_ret (sb : Nat) (s : Ss) (F : List Nat) (r : RT) (w0 : World) (h : SAt w0 sb s F) (hl : s.l.length < 1000000) (hlen : s.q.t.list.length + 1 ≤ 1000000) (hn : s.q.n < 1000000) (hd : ∀ o, s.q.f (itR r).1.id = some o → CutOk o s.q.t) :
    Ret Tryz.prog 230 #[.pointer (some ⟨sb, 0, none⟩), rv r.1] w0 fun v w' => v = .int .i64 (putE' s r) ∧ ∃ F', SAt w' sb (putS s r) F' ∧ (∀ k ∈ F', k ∈ F ∨ w0.heap.size ≤ k) ∧ Only F w0 w' := by
  have hs := St.nil w0
  refine ret_of_xc Tryz.func230 (by kernel_rfl) rfl Tryz.ntmps230 rfl rfl rfl ?_
  repeat' (first|refine vs (k:=?_)|(refine bx hs (k:=?_);intro b w hz hs)|refine qRg ?_|refine Nx.h ?_|fail)
  have ho := hs.only0 rfl
  (with_reducible apply xs_call); exact rfl; exact rfl; exact slay_ret 239 sb s F r (chE s.q (itR r)) (chQ s.q (itR r)) _ (h.only ho) hl (fun qb Fq w hq _ => put1_ret qb s.q Fq r w hq hlen hn hd)
  rintro v w1 ⟨rfl, F', hA, hF', ho1⟩
  have hz := ho.size
  clear hs
  have hs := St.nil w1
  repeat' (first|refine vs (k:=?_)|refine Nx.h ?_|fail)
  first | refine rt (hq := ?_) | refine rt' (hq := ?_)
  exact ⟨rfl, F', hA.only (hs.only0 rfl), fun k hk => by rcases hF' k hk with h | h; exact .inl h; exact .inr (by omega), ((ho.weaken (by simp)).step ho1 (fun k hk => .inl hk)).step (hs.only0 rfl) (by simp)⟩
end Go.Proofs.YtilajmcellffiaaGreatDoorX

namespace Go.Proofs.YtilajmcellffiaaGreatDoorX
open IB (IT)
theorem ofL_is {lo : Int} : ∀ {l2 l1 : List It} {m : Mn}, AllW m.b lo (l1 ++ l2) → IsM m l1 → ∃ m', ofL m (places l2) = some m' ∧ m'.b = m.b ∧ IsM m' (l1 ++ l2)
  | [], l1, m, h, k => ⟨m, rfl, rfl, by rwa [List.append_nil]⟩
  | a :: l2, l1, m, h, k => by
    have hp : (l1 ++ a :: l2).Perm ((a :: l1) ++ l2) := List.perm_middle
    have h2 := h.perm hp
    have h3 : AllW m.b lo (a :: l1) := ⟨h2.1, by have := h2.2.1; simp only [List.length_append, List.length_cons] at this ⊢; omega, fun x hx => h2.2.2 x (List.mem_append_left _ hx)⟩
    obtain ⟨m1, e1, e2, e3⟩ := add_is h3 k
    obtain ⟨m2, e4, e5, e6⟩ := ofL_is (l2 := l2) (l1 := a :: l1) (m := m1) (by rw [e2]; exact h2) e3
    refine ⟨m2, ?_, e5.trans e2, e6.perm hp.symm⟩
    show (addM m a.p).bind (fun m => ofL m (places l2)) = some m2
    rw [e1]; exact e4
theorem AllW.at {b lo : Int} {x : It} {l : List It} (h : AllW b lo (x :: l)) : AllW x.p.t (lo - sn x.p.t b) (x :: l) := (h.move h.head.low (h.head.dead h.1).2.2).1
theorem mean_of {b lo : Int} {l : List It} (h : AllW b lo l) (hl : l ≠ []) : Cen (meanL l) l ∧ anchA l = some (meanL l).b := by
  obtain ⟨x, r, rfl⟩ := List.exists_cons_of_ne_nil hl
  have hw := h.at
  obtain ⟨m, e1, e2, e3⟩ := ofL_is (l1 := []) (l2 := x :: r) (m := ⟨x.p.t, 0, 0, 0⟩) hw ⟨rfl, rfl, rfl⟩
  have e2' : m.b = x.p.t := e2
  have hw' : AllW m.b (lo - sn x.p.t b) (x :: r) := by rw [e2']; exact hw
  obtain ⟨m', e4, e5⟩ := centre_is hw' e3 hl
  have hf := floor_is hw' e3 hl
  have e6 := e5.eq hl
  rw [← e6]
  refine ⟨e5, ?_⟩
  show (ofM x.p.t (places (x :: r))).bind flM = _
  unfold ofM
  rw [e1, Option.bind_some, hf]
  rw [hf] at e4
  simp only [Option.getD_some, rebM] at e4
  split at e4
  · cases e4; rfl
  · cases e4
theorem meanL_perm {b lo : Int} {l l' : List It} (h : AllW b lo l) (p : l.Perm l') : meanL l = meanL l' := by
  by_cases e : l = []
  · subst e; rw [p.nil_eq]
  · exact ((mean_of h e).1.perm p).eq (fun k => e (by subst k; exact p.symm.nil_eq.symm))
theorem QI.winp {s : Qs} (h : QI s) {a : IT} (hr : a.1.right = true) (hn : s.t.list.length < 32) {L : List It} (hL : L.Perm (a.1 :: plain s.t.list)) (hw : within (preM s a).b L = true) : ∃ lo, AllW (preM s a).b lo (a.1 :: plain s.t.list) := by
  obtain ⟨lo, k⟩ := h.win
  rw [within_mem (l' := a.1 :: plain s.t.list) (fun x => hL.mem_iff)] at hw
  refine win_of (fun x hx => ?_) hw ?_ ?_ (by simp only [plain, List.length_cons, List.length_map]; omega)
  · rcases List.mem_cons.1 hx with rfl | hx
    · exact ⟨a.2, hr⟩
    · exact ⟨(k.2.2 x hx).isin, (k.2.2 x hx).right⟩
  all_goals by_cases e : s.t.list = []
  · rw [preM_nil e]; exact ⟨a.1, by simp, by show sn a.1.p.t a.1.p.t ≤ 0; rw [sn_self]; omega⟩
  · rw [preM_ne e]; obtain ⟨⟨x, k1, k2⟩, _⟩ := low_mid (h.cen e) (plain_ne e); exact ⟨x, by simp [k1], k2⟩
  · rw [preM_nil e]; exact ⟨a.1, by simp, by show 0 ≤ sn a.1.p.t a.1.p.t; rw [sn_self]; omega⟩
  · rw [preM_ne e]; obtain ⟨_, ⟨x, k1, k2⟩⟩ := low_mid (h.cen e) (plain_ne e); exact ⟨x, by simp [k1], k2⟩
theorem QI.clock {s : Qs} (h : QI s) (c : Int) : QI { s with c := c } := ⟨h.good, h.srt, h.f, h.n, h.len, h.cen, h.nil⟩
theorem put_perm2 {r : RT} : ∀ {l : List RT}, OrdR l → (putR r l).Perm (r :: delR (idR r) l)
  | [], _ => .refl _
  | a :: l, h => by
    have hd := h.head
    have hlt : ∀ {b : RT}, idR r ≤ idR a → b ∈ l → decide (idR b ≠ idR r) = true := fun h1 hb => by have := hd _ hb; simp; omega
    have ih := put_perm2 (r := r) h.tail
    unfold putR delR
    rw [List.filter_cons]
    split
    · rename_i h1
      rw [if_pos (by simp; omega), List.filter_eq_self.2 (fun b hb => hlt (by omega) hb)]
    · split
      · rename_i h1 h2
        rw [if_neg (by simp; omega), List.filter_eq_self.2 (fun b hb => hlt (by omega) hb)]
      · rename_i h1 h2
        rw [if_pos (by simp; omega)]
        exact (ih.cons a).trans (.swap _ _ _)
def othA (A : As) (id : Int) : List It := its (delR id A.l)
def chBaseA (A : As) (a : It) : Int := if othA A a.id = [] then a.p.t else (meanL (othA A a.id)).b
def changeA (A : As) (a : It) : Int := bif !a.right then 2 else bif !(findR A.l a.id).isSome then 14 else bif !within (chBaseA A a) (othA A a.id ++ [a]) then 8 else 0
def putE (A : As) (r : RT) : Int := layE r.1 (changeA A r.1.i)
def putA (A : As) (r : RT) : As := if putE A r = 0 then ⟨putR r A.l, A.c⟩ else A
theorem oth_perm {s : Ss} {A : As} (h : Rep s A) (id : Int) : (othT id s.q.t.list).Perm ((delR id A.l).map itR) := by
  unfold othT delR
  have : ((A.l.filter fun a => decide (idR a ≠ id)).map itR) = (A.l.map itR).filter fun a => decide (a.1.id ≠ id) := by rw [List.filter_map]; rfl
  rw [this]
  exact h.p.filter _
theorem Rep.oth {s : Ss} {A : As} (h : Rep s A) (id : Int) : (plain (othT id s.q.t.list)).Perm (othA A id) := by
  unfold othA
  rw [← its_itR]; exact plain_perm (oth_perm h id)
theorem Rep.chBase {s : Ss} {A : As} (h : Rep s A) (a : IT) : Go.Proofs.YtilajmcellffiaaGreatDoorX.chBase s.q a = chBaseA A a.1 := by
  unfold Go.Proofs.YtilajmcellffiaaGreatDoorX.chBase chBaseA
  have hp := h.oth a.1.id
  by_cases e : othA A a.1.id = []
  · rw [if_pos e]
    rw [e] at hp
    rw [hp.eq_nil]; rfl
  · rw [if_neg e]
    obtain ⟨lo, k⟩ := h.q.win
    have k2 : AllW s.q.m.b lo (plain (othT a.1.id s.q.t.list)) := ⟨k.1, by have := k.2.1; have := othT_le a.1.id s.q.t.list; simp only [plain, List.length_map] at *; omega, fun x hx => by
      obtain ⟨y, hy, rfl⟩ := List.mem_map.1 hx
      exact plain_win k y (List.mem_filter.1 hy).1⟩
    have ne : plain (othT a.1.id s.q.t.list) ≠ [] := fun k => e (by rw [k] at hp; exact hp.nil_eq.symm)
    rw [(mean_of k2 ne).2, Option.getD_some, meanL_perm k2 hp]
theorem Rep.put {s : Ss} {A : As} (h : Rep s A) (r : RT) : putE' s r = putE A r ∧ Rep (putS s r) (putA A r) ∧ ∀ o, s.q.f (itR r).1.id = some o → CutOk o s.q.t := by
  have hcut : ∀ o, s.q.f (itR r).1.id = some o → CutOk o s.q.t := fun o ho => (h.q.cut ((h.q.f _ _).1 ho).1).2.2.2.2
  have hch : chE s.q (itR r) = changeA A r.1.i := by
    unfold chE changeA
    rw [h.fs, h.chBase, within_mem (l := plain (othT (itR r).1.id s.q.t.list ++ [itR r])) (l' := othA A r.1.i.id ++ [r.1.i]) (fun x => by
      rw [show plain (othT (itR r).1.id s.q.t.list ++ [itR r]) = plain (othT (itR r).1.id s.q.t.list) ++ [(itR r).1] from List.map_append .., List.mem_append, List.mem_append, (h.oth _).mem_iff]; rfl)]
    rfl
  have he : putE' s r = putE A r := by unfold putE' putE; rw [hch]
  refine ⟨he, ?_, hcut⟩
  unfold putA
  by_cases e0 : putE A r = 0
  · rw [if_pos e0]
    have hr : r.1.right = true := by
      unfold putE layE at e0
      cases k : r.1.right
      · rw [k] at e0; cases e0
      · rfl
    have hj : changeA A r.1.i = 0 := by unfold putE layE at e0; rw [hr] at e0; exact e0
    have hjq : chE s.q (itR r) = 0 := by rw [hch]; exact hj
    have hj' := hjq
    unfold chE at hj'
    cases k1 : (itR r).1.right with
    | false => rw [k1] at hj'; cases hj'
    | true =>
    cases k2 : s.q.f (itR r).1.id with
    | none => rw [k1, k2] at hj'; cases hj'
    | some o =>
    cases k4 : within (Go.Proofs.YtilajmcellffiaaGreatDoorX.chBase s.q (itR r)) (plain (othT (itR r).1.id s.q.t.list ++ [itR r])) with
    | false => rw [k1, k2, k4] at hj'; cases hj'
    | true =>
      obtain ⟨ho1, ho2⟩ := (h.q.f _ _).1 k2
      obtain ⟨c1, c2, c3, c4, c5⟩ := h.q.cut ho1
      have hot : othT (itR r).1.id s.q.t.list = RB.sans o s.q.t.list := by
        unfold othT RB.sans
        refine List.filter_congr fun x hx => ?_
        by_cases e : x = o
        · subst e; simp [ho2]
        · have : x.1.id ≠ (itR r).1.id := fun e' => e (h.q.inj x hx o ho1 (by omega))
          simp [this, e]
      have hb : (preM (cutQ s.q o) (itR r)).b = Go.Proofs.YtilajmcellffiaaGreatDoorX.chBase s.q (itR r) := by
        unfold Go.Proofs.YtilajmcellffiaaGreatDoorX.chBase
        rw [hot, ← c2]
        by_cases e : (cutQ s.q o).t.list = []
        · rw [preM_nil e, e]; rfl
        · obtain ⟨lo, k⟩ := c1.win
          have hm := mean_of k (plain_ne e)
          rw [preM_ne e, hm.2, ← (c1.cen e).eq (plain_ne e)]; rfl
      have hfn : (cutQ s.q o).f (itR r).1.id = none := by
        cases k : (cutQ s.q o).f (itR r).1.id with
        | none => rfl
        | some y =>
          obtain ⟨y1, y2⟩ := (c1.f _ _).1 k
          rw [c2, ← hot] at y1
          have := (List.mem_filter.1 y1).2
          simp only [decide_eq_true_eq] at this
          exact absurd y2 this
      have hlen := c3.length_eq
      have hle := h.q.len
      simp only [List.length_cons] at hlen
      obtain ⟨lo, hw⟩ := c1.winp (a := itR r) k1 (by rw [c2]; omega) (L := plain (othT (itR r).1.id s.q.t.list ++ [itR r])) (by
        rw [hot, c2, show plain (RB.sans o s.q.t.list ++ [itR r]) = plain (RB.sans o s.q.t.list) ++ [(itR r).1] from List.map_append ..]
        exact List.perm_append_comm) (by rw [hb]; exact k4)
      obtain ⟨p1, p2, p3⟩ := c1.put (a := itR r) hfn hw
      have hE : putS s r = ⟨swapQ s.q o (itR r), putR r s.l⟩ := by
        unfold putS layS chQ; rw [hr, hjq, k2]; rfl
      rw [hE]
      refine ⟨p1.clock _, by rw [h.l], ?_, h.c, fun x hx => ?_, ord_put h.o⟩
      · show (putQ (cutQ s.q o) (itR r)).t.list.Perm ((putR r A.l).map itR)
        refine p2.trans ?_
        rw [c2, ← hot]
        exact ((oth_perm h _).cons _).trans ((put_perm2 h.o).map itR).symm
      · rcases mem_put hx with rfl | hx
        · exact hr
        · exact h.r x hx
  · rw [if_neg e0]
    have : putS s r = s := by
      unfold putS layS
      cases k : r.1.right
      · rfl
      · have : chE s.q (itR r) ≠ 0 := fun e => e0 (by rw [← he]; unfold putE' layE; rw [k]; exact e)
        unfold chQ
        rw [decide_eq_false this]; rfl
    rw [this]; exact h
theorem del_perm {l : List RT} {a : RT} {i : Int} (ho : OrdR l) (hf : findR l i = some a) : l.Perm (a :: delR i l) := by
  obtain ⟨h1, h2⟩ := findR_some hf
  have : l.Nodup := (List.Pairwise.imp (fun h e => by subst e; omega) (List.pairwise_map.1 ho))
  clear hf
  induction l with
  | nil => cases h1
  | cons b l ih =>
    have hd := ho.head
    unfold delR
    rw [List.filter_cons]
    rcases List.mem_cons.1 h1 with rfl | h1
    · rw [if_neg (by simp [h2]), List.filter_eq_self.2 (fun x hx => by have := hd x hx; simp; omega)]
    · have := hd a h1
      rw [if_pos (by simp; omega)]
      exact ((ih ho.tail h1 (List.nodup_cons.1 ‹(b :: l).Nodup›).2).cons b).trans (.swap _ _ _)
end Go.Proofs.YtilajmcellffiaaGreatDoorX

namespace Go.Proofs.YtilajmcellffiaaGreatDoorX
open Go Go.RowKit
open IB (IT ITsAt flatT)
attribute [local irreducible] XS XC XA thenE blockE retE loopE loopS cutB cutN doneE SE
def soonId (q : Qs) : Int := (IB.valO (soonQ q)).id
set_option maxHeartbeats 4000000 in
theorem settle_ret (sb : Nat) (s s' : Ss) (l : List Gn) (F : List Nat) (w0 : World) (h : SAt w0 sb s F) (hn : s.l.length ≤ 1000000) (hq : s.q.t.list.length ≤ 1000000) (hl : l.length ≤ 1000000) (hF : Flushes s l s') :
    Ret Tryz.prog 22 #[.pointer (some ⟨sb, 0, none⟩)] w0 fun v w' => ∃ sl, v = .tuple #[sl, .int .i64 (soonId s'.q)] ∧ (∃ G, SlV w' 140 13 sl l.length (flatG l) G ∧ ∀ k ∈ G, w0.heap.size ≤ k) ∧ ∃ F', SAt w' sb s' F' ∧ (∀ k ∈ F', k ∈ F ∨ w0.heap.size ≤ k) ∧ Only F w0 w' := by
  have hs := St.nil w0
  refine ret_of_xc Tryz.func22 (by kernel_rfl) rfl Tryz.ntmps22 rfl rfl rfl ?_
  repeat' (first|refine vs (k:=?_)|refine qRg ?_|refine Nx.h ?_|refine qCf ?_|fail)
  have hoa := hs.only0 rfl
  have hz := hoa.size
  (with_reducible apply xs_call); exact rfl; exact rfl; exact flush_ret sb s s' l F _ (h.only hoa) hn hq hl hF
  rintro v1 w1 ⟨⟨G, hG, hGn⟩, F1, hS1, hF1, ho1⟩
  have hS1' := hS1
  obtain ⟨qb, mb, Fq, rfl, h1, h2, h3, h4, h5⟩ := hS1
  clear hs
  have hs := (St.nil w1).track h1 (by simp)
  repeat' (first|refine vs (k:=?_)|refine qRg ?_|refine Nx.h ?_|fail)
  have ho2 := hs.onlyF [] (by simp [h1]) (by simp [D0])
  (with_reducible apply xs_call); exact rfl; exact rfl; exact qsoonest_ret qb s'.q Fq _ (h3.only ho2)
  rintro v w' ⟨rfl, ho⟩; replace hs := hs.call0 ho; repeat' (first|refine vs (k:=?_)|(refine stA hs (k:=?_);intro w hs)|(refine al hs (k:=?_);intro b w hz hs)|refine Nx.h ?_|fail)
  refine dr [] hs (k := ?_); intro hX w hs
  refine tk 0 hX (k := ?_)
  refine tk 1 hX (k := ?_)
  refine tk 2 hX (k := ?_)
  refine tk 3 hX (k := ?_)
  refine tk 4 hX (k := ?_)
  refine en (k := ?_)
  repeat' (first|refine Nx.h ?_|fail)
  first | refine rt (hq := ?_) | refine rt' (hq := ?_)
  have ho3 := hs.onlyF [] (by simp [h1]) (by simp [D0])
  exact ⟨v1, rfl, ⟨G, hG.keep ho3 (by simp), fun k hk => by have := hGn k hk; omega⟩, _, hS1'.only ho3, fun k hk => by
    rcases hF1 k hk with h | h
    · exact .inl h
    · exact .inr (by omega), ((hoa.weaken (by simp)).step ho1 (fun k hk => .inl hk)).step ho3 (by simp)⟩
end Go.Proofs.YtilajmcellffiaaGreatDoorX

namespace Go.Proofs.YtilajmcellffiaaGreatDoorX
open IB (IT)
theorem over_ok {m : Mn} {l : List It} (h : Cen m l) {x : It} (hx : x ∈ l) : ovM m x.p = some (ovL m x.p) ∧ InW (ovL m x.p) := by
  obtain ⟨lo, k⟩ := h.all
  have hw := k.2.2 x hx
  have hr := k.right h.is
  obtain ⟨r1, _, _, _, _, _, ⟨w1, w2, w3, w4⟩, _⟩ := iright_all hw.isin hw.right
  have hn : m.n ≠ 0 := by rw [h.is.n]; have := List.length_pos_of_mem hx; omega
  have h8 := had_rng hw.isin.1 hr r1
  have hm := mright_iff.1 hr
  have a0 := h.a0
  have a1 := h.a1
  have h9 := mul_rng (w := m.a) (s := x.p.w) (W := 33554432) (S := 1048576) (by omega) (by omega) (by omega) (by omega)
  have h10 := mul_rng (w := m.w) (s := dist x.p m.b) (W := 33554432) (S := 9671406556917033397649408 + 1048576) (by omega) (by omega) h8.2.1 h8.2.2
  have e := Int.mul_comm (dist x.p m.b) m.w
  have i1 : InW (m.a * x.p.w) := by unfold InW; omega
  have i2 : InW (ovL m x.p) := by unfold ovL InW; rw [e]; omega
  unfold ovM
  exact ⟨if_pos ⟨hr, hn, r1, i1, i2⟩, i2⟩
def mA (A : As) : Mn := meanL (its A.l)
def ovA (A : As) (a : RT) : Int := ovL (mA A) a.1.i.p
def lagR (A : As) (a : RT) : Int := ovA A a / (mA A).w
def owedA (A : As) (id : Int) : Int := match findR A.l id with | some a => cmpI (ovA A a) 0 | none => 0
def lagA (A : As) (id : Int) : Int := match findR A.l id with | some a => lagR A a | none => 0
theorem Rep.over {s : Ss} {A : As} (h : Rep s A) {a : RT} (ha : a ∈ A.l) : ovM s.q.m a.1.i.p = some (ovA A a) ∧ InW (ovA A a) ∧ s.q.m = mA A := by
  have hne : A.l ≠ [] := List.ne_nil_of_mem ha
  have e := h.mean hne
  have := over_ok (h.cen hne) (x := a.1.i) (List.mem_map_of_mem ha)
  rw [e] at this
  exact ⟨by rw [e]; exact this.1, this.2, e⟩
theorem Rep.owed {s : Ss} {A : As} (h : Rep s A) (id : Int) : owedQ s.q id = owedA A id := by
  unfold owedQ owedA
  rw [h.f]
  cases e : findR A.l id with
  | none => rfl
  | some a =>
    have := h.over (findR_some e).1
    show cmpI ((ovM s.q.m a.1.i.p).getD 0) 0 = _
    rw [this.1]; rfl
theorem Rep.lag {s : Ss} {A : As} (h : Rep s A) (id : Int) : lagQ s.q id = lagA A id := by
  unfold lagQ lagA
  rw [h.f]
  cases e : findR A.l id with
  | none => rfl
  | some a =>
    have := h.over (findR_some e).1
    show ((rdM s.q.m a.1.i.p).getD 0) = _
    unfold rdM lagR
    rw [this.1, this.2.2]; rfl
def goesA (A : As) (a : RT) : Bool := a.1.asleep && decide (0 ≤ ovA A a)
def gnA (A : As) (a : RT) : Gn := ⟨idR a, lagR A a, a.1⟩
def flushN : Nat → As → List Gn × As
  | 0, A => ([], A)
  | n + 1, A => match A.l.find? (goesA A) with
    | none => ([], A)
    | some a => (gnA A a :: (flushN n (extA A (idR a))).1, (flushN n (extA A (idR a))).2)
def flushA (A : As) : List Gn × As := flushN A.l.length A
theorem cmp_nonneg {x : Int} : cmpI x 0 ≥ 0 ↔ 0 ≤ x := by unfold cmpI; split <;> (try split) <;> omega
theorem find_congr {α : Type} {p q : α → Bool} : ∀ {l : List α}, (∀ x ∈ l, p x = q x) → l.find? p = l.find? q
  | [], _ => rfl
  | a :: l, h => by
    rw [List.find?_cons, List.find?_cons, h a List.mem_cons_self, find_congr fun x hx => h x (List.mem_cons_of_mem _ hx)]
theorem Rep.next {s : Ss} {A : As} (h : Rep s A) : nextS s = (A.l.find? (goesA A)).map (gnA A) := by
  unfold nextS
  rw [h.l, find_congr (q := goesA A) (fun a ha => by
    unfold goes goesA
    rw [h.owed]
    unfold owedA
    rw [findR_at h.o ha]
    simp only [cmp_nonneg])]
  cases e : A.l.find? (goesA A) with
  | none => rfl
  | some a =>
    have ha := List.mem_of_find?_eq_some e
    show some (gnOf s.q a) = some (gnA A a)
    unfold gnOf gnA
    rw [h.lag]
    unfold lagA
    rw [findR_at h.o ha]
theorem Rep.flushN : ∀ {n : Nat} {s : Ss} {A : As}, Rep s A → A.l.length ≤ n → ∃ s', Flushes s (flushN n A).1 s' ∧ Rep s' (flushN n A).2
  | 0, s, A, h, hn => ⟨s, .done (by rw [h.next, List.eq_nil_of_length_eq_zero (Nat.le_zero.1 hn)]; rfl), h⟩
  | n + 1, s, A, h, hn => by
    unfold Go.Proofs.YtilajmcellffiaaGreatDoorX.flushN
    cases e : A.l.find? (goesA A) with
    | none => exact ⟨s, .done (by rw [h.next, e]; rfl), h⟩
    | some a =>
      have ha := List.mem_of_find?_eq_some e
      have hf := findR_at h.o ha
      obtain ⟨e1, e2, e3⟩ := h.exit hf
      have hl : (extA A (idR a)).l.length ≤ n := by
        unfold extA
        simp only [hf, Option.isSome_some, if_true]
        have := (del_perm h.o hf).length_eq
        simp only [List.length_cons] at this ⊢
        omega
      obtain ⟨s', k1, k2⟩ := e3.flushN hl
      exact ⟨s', .step (by rw [h.next, e]; rfl) e1 e2 k1, k2⟩
theorem Rep.flush {s : Ss} {A : As} (h : Rep s A) : ∃ s', Flushes s (flushA A).1 s' ∧ Rep s' (flushA A).2 := h.flushN (Nat.le_refl _)
def MinOf (X : List IT) : Option IT → Prop
  | none => X = []
  | some m => m ∈ X ∧ ∀ y ∈ X, due y.1 m.1 = false
theorem snr_min {S : IT → Prop} (o : OrdOn (fun x y : IT => due x.1 y.1) S) {X Y : List IT} (hX : ∀ z ∈ X, S z) (hY : ∀ z ∈ Y, S z) {x y : IT} (h1 : MinOf X (some x)) (h2 : MinOf Y (some y)) {Z : List IT} (hZ : ∀ z, z ∈ Z ↔ z ∈ X ∨ z ∈ Y) : MinOf Z (some (IB.snr x y)) := by
  obtain ⟨x1, x2⟩ := h1
  obtain ⟨y1, y2⟩ := h2
  have sx := hX x x1
  have sy := hY y y1
  unfold IB.snr
  cases e : due y.1 x.1
  · refine ⟨(hZ _).2 (.inl x1), fun z hz => ?_⟩
    rcases (hZ z).1 hz with hz | hz
    · exact x2 z hz
    · cases k : due z.1 x.1
      · exact k
      · exfalso
        cases k2 : due y.1 z.1
        · have := o.tri z y (hY z hz) sy (y2 z hz) k2
          subst this; rw [e] at k; cases k
        · have := o.tr y z x sy (hY z hz) sx k2 k
          rw [show due y.1 x.1 = true from this] at e; cases e
  · refine ⟨(hZ _).2 (.inr y1), fun z hz => ?_⟩
    rcases (hZ z).1 hz with hz | hz
    · cases k : due z.1 y.1
      · exact k
      · have := o.tr z y x (hX z hz) sy sx k e
        exact absurd (x2 z hz) (by rw [show due z.1 x.1 = true from this]; simp)
    · exact y2 z hz
theorem all_min {S : IT → Prop} (o : OrdOn (fun x y : IT => due x.1 y.1) S) : ∀ {t : RB IT}, (∀ z ∈ t.list, S z) → MinOf t.list (IB.all? t)
  | .nil, _ => rfl
  | .node l x r c, h => by
    have hl := all_min o (t := l) fun z hz => h z (by simp [RB.list, hz])
    have hr := all_min o (t := r) fun z hz => h z (by simp [RB.list, hz])
    have hx : S x := h x (by simp [RB.list])
    have h0 : MinOf [x] (some x) := ⟨by simp, fun y hy => by obtain rfl := List.mem_singleton.1 hy; exact o.irr y hx⟩
    have hL : ∀ z ∈ l.list, S z := fun z hz => h z (by simp [RB.list, hz])
    have hR : ∀ z ∈ r.list, S z := fun z hz => h z (by simp [RB.list, hz])
    have h1x : ∀ z ∈ [x], S z := fun z hz => by obtain rfl := List.mem_singleton.1 hz; exact hx
    have h1 : MinOf (l.list ++ [x]) (some (match IB.all? l with | none => x | some a => IB.snr a x)) := by
      cases e : IB.all? l with
      | none => rw [e] at hl; rw [show l.list = [] from hl]; exact h0
      | some a => rw [e] at hl; exact snr_min o hL h1x hl h0 (fun z => by simp)
    have h1' : ∀ z ∈ l.list ++ [x], S z := fun z hz => by
      rcases List.mem_append.1 hz with hz | hz
      · exact hL z hz
      · exact h1x z hz
    show MinOf (l.list ++ x :: r.list) (some _)
    cases e : IB.all? r with
    | none => rw [e] at hr; rw [show r.list = [] from hr]; exact h1
    | some b => rw [e] at hr; exact snr_min o h1' hR h1 hr (fun z => by simp [or_assoc])
theorem fold_min {S : IT → Prop} (o : OrdOn (fun x y : IT => due x.1 y.1) S) {q : IT → Bool} : ∀ {t : RB IT} {acc : Option IT} {X Z : List IT}, (∀ z ∈ t.list, S z) → (∀ z ∈ X, S z) → MinOf X acc → t.list.Pairwise (fun a b => q b = true → q a = true) → (∀ z, z ∈ Z ↔ z ∈ X ∨ (z ∈ t.list ∧ q z = true)) → MinOf Z (IB.foldT q t acc)
  | .nil, acc, X, Z, _, _, h, _, hZ => by
    have : ∀ z, z ∈ Z ↔ z ∈ X := fun z => by rw [hZ]; simp [RB.list]
    unfold IB.foldT
    cases acc with
    | none => exact List.eq_nil_iff_forall_not_mem.2 fun z hz => by have := (this z).1 hz; rw [show X = [] from h] at this; cases this
    | some m => exact ⟨(this m).2 h.1, fun y hy => h.2 y ((this y).1 hy)⟩
  | .node l x r c, acc, X, Z, hS, hX, h, hp, hZ => by
    have hx : S x := hS x (by simp [RB.list])
    have hL : ∀ z ∈ l.list, S z := fun z hz => hS z (by simp [RB.list, hz])
    have hR : ∀ z ∈ r.list, S z := fun z hz => hS z (by simp [RB.list, hz])
    obtain ⟨p1, p2, p3⟩ := List.pairwise_append.1 (show (l.list ++ x :: r.list).Pairwise _ from hp)
    obtain ⟨p4, p5⟩ := List.pairwise_cons.1 p2
    have h1x : ∀ z ∈ [x], S z := fun z hz => by obtain rfl := List.mem_singleton.1 hz; exact hx
    have h0 : MinOf [x] (some x) := ⟨by simp, fun y hy => by obtain rfl := List.mem_singleton.1 hy; exact o.irr y hx⟩
    unfold IB.foldT
    cases e : q x
    · refine fold_min o hL hX h p1 fun z => ?_
      rw [hZ]
      constructor
      · rintro (h1 | ⟨h1, h2⟩)
        · exact .inl h1
        · rcases List.mem_append.1 (show z ∈ l.list ++ x :: r.list from h1) with h1 | h1
          · exact .inr ⟨h1, h2⟩
          · rcases List.mem_cons.1 h1 with rfl | h1
            · rw [e] at h2; cases h2
            · have := p4 z h1 h2; rw [e] at this; cases this
      · rintro (h1 | ⟨h1, h2⟩)
        · exact .inl h1
        · exact .inr ⟨by show z ∈ l.list ++ x :: r.list; simp [h1], h2⟩
    · have hql : ∀ z ∈ l.list, q z = true := fun z hz => p3 z hz x List.mem_cons_self e
      have a1 : MinOf (X ++ l.list) (IB.allO acc l) := by
        have hl := all_min o hL
        unfold IB.allO
        cases e1 : IB.all? l with
        | none => rw [e1] at hl; rw [show l.list = [] from hl, List.append_nil]; exact h
        | some a =>
          rw [e1] at hl
          unfold IB.addO
          cases acc with
          | none => rw [show X = [] from h]; exact hl
          | some m => exact snr_min o hX hL h hl (fun z => by simp)
      have hXL : ∀ z ∈ X ++ l.list, S z := fun z hz => by
        rcases List.mem_append.1 hz with hz | hz
        · exact hX z hz
        · exact hL z hz
      have a2 : MinOf (X ++ l.list ++ [x]) (IB.addO (IB.allO acc l) x) := by
        unfold IB.addO
        cases e1 : IB.allO acc l with
        | none => rw [e1] at a1; rw [show X ++ l.list = [] from a1]; exact h0
        | some m => rw [e1] at a1; exact snr_min o hXL h1x a1 h0 (fun z => by simp [or_assoc])
      refine fold_min (X := X ++ l.list ++ [x]) o hR (fun z hz => ?_) a2 p5 fun z => ?_
      · rcases List.mem_append.1 hz with hz | hz
        · exact hXL z hz
        · exact h1x z hz
      · rw [hZ]
        constructor
        · rintro (h1 | ⟨h1, h2⟩)
          · exact .inl (by simp [h1])
          · rcases List.mem_append.1 (show z ∈ l.list ++ x :: r.list from h1) with h1 | h1
            · exact .inl (by simp [h1])
            · rcases List.mem_cons.1 h1 with rfl | h1
              · exact .inl (by simp)
              · exact .inr ⟨h1, h2⟩
        · rintro (h1 | ⟨h1, h2⟩)
          · rcases List.mem_append.1 h1 with h1 | h1
            · rcases List.mem_append.1 h1 with h1 | h1
              · exact .inl h1
              · exact .inr ⟨by show z ∈ l.list ++ x :: r.list; simp [h1], hql z h1⟩
            · obtain rfl := List.mem_singleton.1 h1
              exact .inr ⟨by show z ∈ l.list ++ z :: r.list; simp, e⟩
          · exact .inr ⟨by show z ∈ l.list ++ x :: r.list; simp [h1], h2⟩
def eligA (A : As) : List RT := A.l.filter fun a => decide (0 ≤ ovA A a)
def firstDue : List RT → Option RT
  | [] => none
  | a :: l => some (l.foldl (fun a b => bif due b.1.i a.1.i then b else a) a)
def soonA (A : As) : Option RT := firstDue (eligA A)
def soonId' (o : Option RT) : Int := match o with | none => 0 | some a => idR a
def MinR (X : List RT) : Option RT → Prop
  | none => X = []
  | some m => m ∈ X ∧ ∀ y ∈ X, due y.1.i m.1.i = false
theorem first_min {S : RT → Prop} (o : OrdOn (fun x y : RT => due x.1.i y.1.i) S) : ∀ {X : List RT}, (∀ z ∈ X, S z) → MinR X (firstDue X)
  | [], _ => rfl
  | a :: l, h => by
    suffices H : ∀ (l : List RT) (a : RT) (Y : List RT), (∀ z ∈ Y, S z) → (∀ z ∈ l, S z) → MinR Y (some a) → MinR (Y ++ l) (some (l.foldl (fun a b => bif due b.1.i a.1.i then b else a) a)) from
      H l a [a] (fun z hz => h z (by simp at hz; simp [hz])) (fun z hz => h z (List.mem_cons_of_mem _ hz)) ⟨by simp, fun y hy => by obtain rfl := List.mem_singleton.1 hy; exact o.irr y (h y List.mem_cons_self)⟩
    intro l
    induction l with
    | nil => intro a Y _ _ h; rw [List.append_nil]; exact h
    | cons b l ih =>
      intro a Y hY hl h
      rw [List.foldl_cons, show Y ++ b :: l = (Y ++ [b]) ++ l by simp]
      have hb := hl b List.mem_cons_self
      have ha := hY a h.1
      refine ih _ _ (fun z hz => ?_) (fun z hz => hl z (List.mem_cons_of_mem _ hz)) ?_
      · rcases List.mem_append.1 hz with hz | hz
        · exact hY z hz
        · obtain rfl := List.mem_singleton.1 hz; exact hb
      · cases e : due b.1.i a.1.i
        · refine ⟨by simp [h.1], fun y hy => ?_⟩
          rcases List.mem_append.1 hy with hy | hy
          · exact h.2 y hy
          · obtain rfl := List.mem_singleton.1 hy; exact e
        · refine ⟨by simp, fun y hy => ?_⟩
          rcases List.mem_append.1 hy with hy | hy
          · show due y.1.i b.1.i = false
            cases k : due y.1.i b.1.i
            · rfl
            · have := o.tr y b a (hY y hy) hb ha k e
              exact absurd (h.2 y hy) (by rw [show due y.1.i a.1.i = true from this]; simp)
          · obtain rfl := List.mem_singleton.1 hy; exact o.irr y hb
theorem OrdR.inj {l : List RT} (h : OrdR l) : ∀ x ∈ l, ∀ y ∈ l, idR x = idR y → x = y := fun x hx y hy e => by
  have h1 := findR_at h hx
  rw [e, findR_at h hy] at h1
  exact (Option.some.inj h1).symm
theorem ahead_le {b lo : Int} {x y : It} (hx : Win b lo x) (hy : Win b lo y) (hm : Mid lo) (h : ahead x y = true) : leP b x.p y.p := by
  have d1 := hx.dead hm
  have d2 := hy.dead hm
  have l1 := hx.low
  have l2 := hy.low
  have hc := cmp_le (cmpP_frac hx.isin.1 hy.isin.1 (iright_all hx.isin hx.right).1 (iright_all hy.isin hy.right).1 (b := b) (by unfold Near; unfold Mid at hm; omega))
  unfold ahead at h
  simp only [Bool.or_eq_true, Bool.and_eq_true, decide_eq_true_eq] at h
  rcases h with h | h
  · have := hc.1.1 h; unfold leP at *; omega
  · exact (hc.2.1 h.1).1
theorem elig_ahead {m : Mn} {l : List It} (h : Cen m l) {x y : It} (hx : x ∈ l) (hy : y ∈ l) (ha : ahead x y = true) (he : elig m y.p = true) : elig m x.p = true := by
  obtain ⟨lo, k⟩ := h.all
  have wx := k.2.2 x hx
  have wy := k.2.2 y hy
  have hl := ahead_le wx wy k.1 ha
  unfold elig at he ⊢
  rw [(over_ok h hx).1]
  rw [(over_ok h hy).1] at he
  simp only [Option.isSome_some, Option.getD_some, Bool.true_and, decide_eq_true_eq] at he ⊢
  have p1 := (iright_all wx.isin wx.right).2.2.2.2.2.2.1
  have p2 := (iright_all wy.isin wy.right).2.2.2.2.2.2.1
  have a0 := h.a0
  have a1 := h.a1
  have := fr_trans (p := x.p.w) (q := y.p.w) (r := m.w) (by omega) (by omega) (by omega) hl (show dist y.p m.b * m.w ≤ m.a * y.p.w by unfold ovL at he; omega)
  unfold ovL; omega
def soonI (A : As) : It := match soonA A with | none => .zero | some a => a.1.i
theorem Rep.soon {s : Ss} {A : As} (h : Rep s A) : IB.valO (soonQ s.q) = soonI A ∧ (soonQ s.q).isSome = (soonA A).isSome := by
  obtain ⟨lo, hW⟩ := h.q.win
  have hwin := plain_win hW
  have o1 : OrdOn (fun x y : IT => due x.1 y.1) (· ∈ s.q.t.list) := dueT hwin hW.1 h.q.inj
  have hin : ∀ a : RT, a ∈ A.l → itR a ∈ s.q.t.list := fun a ha => h.p.mem_iff.2 (List.mem_map_of_mem ha)
  have o2 : OrdOn (fun x y : RT => due x.1.i y.1.i) (· ∈ A.l) := ⟨fun a ha => o1.irr (itR a) (hin a ha), fun a b c ha hb hc => o1.tr (itR a) (itR b) (itR c) (hin a ha) (hin b hb) (hin c hc), fun a b ha hb k1 k2 => by
    have := o1.tri (itR a) (itR b) (hin a ha) (hin b hb) k1 k2
    exact h.o.inj a ha b hb (congrArg (fun z : IT => z.1.id) this)⟩
  have hmono : s.q.t.list.Pairwise (fun a b => elig s.q.m b.1.p = true → elig s.q.m a.1.p = true) := by
    by_cases e : s.q.t.list = []
    · rw [e]; exact List.Pairwise.nil
    · refine List.Pairwise.imp_of_mem (fun {a b} ha hb hab => ?_) h.q.srt
      exact elig_ahead (h.q.cen e) (List.mem_map_of_mem ha) (List.mem_map_of_mem hb) hab
  have hE : ∀ a ∈ A.l, elig s.q.m a.1.i.p = decide (0 ≤ ovA A a) := fun a ha => by
    unfold elig
    rw [(h.over ha).1]; rfl
  have hm : MinOf ((eligA A).map itR) (soonQ s.q) := fold_min (X := []) o1 (fun z hz => hz) (fun z hz => by cases hz) rfl hmono fun z => by
    rw [List.mem_map]
    constructor
    · rintro ⟨a, ha, rfl⟩
      obtain ⟨h1, h2⟩ := List.mem_filter.1 ha
      exact .inr ⟨hin a h1, by show elig s.q.m a.1.i.p = true; rw [hE a h1]; exact h2⟩
    · rintro (h1 | ⟨h1, h2⟩)
      · cases h1
      · obtain ⟨a, ha, rfl⟩ := List.mem_map.1 (h.p.mem_iff.1 h1)
        exact ⟨a, List.mem_filter.2 ⟨ha, by rw [← hE a ha]; exact h2⟩, rfl⟩
  have hr : MinR (eligA A) (soonA A) := first_min o2 fun z hz => (List.mem_filter.1 hz).1
  cases e1 : soonQ s.q with
  | none =>
    rw [e1] at hm
    have : eligA A = [] := List.map_eq_nil_iff.1 hm
    unfold soonI soonA
    rw [this]; exact ⟨rfl, rfl⟩
  | some m =>
    rw [e1] at hm
    obtain ⟨h1, h2⟩ := hm
    obtain ⟨a, ha, rfl⟩ := List.mem_map.1 h1
    cases e2 : soonA A with
    | none => rw [e2] at hr; rw [show eligA A = [] from hr] at ha; cases ha
    | some b =>
      rw [e2] at hr
      obtain ⟨h3, h4⟩ := hr
      have : a = b := o2.tri a b (List.mem_filter.1 ha).1 (List.mem_filter.1 h3).1 (h4 a ha) (h2 (itR b) (List.mem_map_of_mem h3))
      subst this
      unfold soonI
      rw [e2]; exact ⟨rfl, rfl⟩
theorem Rep.soonId {s : Ss} {A : As} (h : Rep s A) : Go.Proofs.YtilajmcellffiaaGreatDoorX.soonId s.q = soonId' (soonA A) := by
  unfold Go.Proofs.YtilajmcellffiaaGreatDoorX.soonId
  rw [h.soon.1]
  unfold soonI
  cases soonA A <;> rfl
end Go.Proofs.YtilajmcellffiaaGreatDoorX
