/- A part of the proof: what its functions compute. -/
import Derived.Test.YtilajmcellffiaaGreatDoorA8
import Derived.Deep.SlicePairs
import Derived.Deep.Slices
import Derived.Shelf.SlMaps.Clone
import Derived.Ground.SlmcProg
set_option linter.unusedVariables false
set_option linter.unusedSimpArgs false
set_option maxRecDepth 100000
namespace Go.Proofs.YtilajmcellffiaaGreatDoorX
open Go Go.RowKit
def LsX (w : World) (k : Nat) (v : Value) (xs : List (List Value)) : Prop :=
  ∃ ad cap, v = .slice ad xs.length cap ∧ (xs ≠ [] → ∃ (b off : Nat) (cs : List Value) (E : TypeId) (fz : Nat × Nat), ad = some ⟨b, off, none⟩ ∧ w.heap[b]? = some (.cells cs.toArray E fz) ∧ ∀ (i : Nat) x, xs[i]? = some x → Pick cs (off + i * k) k x)
end Go.Proofs.YtilajmcellffiaaGreatDoorX

namespace Go.Proofs.YtilajmcellffiaaGreatDoorX
open Go Go.RowKit Go.ChangeShapes Go.WideShapes Go.ChangeAt
theorem cell_block {w : World} {a : Addr} {v : Value} (h : w.cell? a = some v) : ∃ cs E fz, w.heap[a.block]? = some (.cells cs E fz) ∧ a.spot = none ∧ cs[a.off]? = some v := by
  unfold World.cell? at h
  split at h
  · rename_i cs E fz hb
    split at h
    · cases h
    · rename_i hs
      exact ⟨cs, E, fz, hb, by simpa using hs, h⟩
  · cases h
theorem cell_of_block {w : World} {a : Addr} {v : Value} {cs : Array Value} {E : TypeId} {fz : Nat × Nat} (h : w.cell? a = some v) (hb : w.heap[a.block]? = some (.cells cs E fz)) : cs[a.off]? = some v := by
  obtain ⟨cs', E', fz', h1, _, h2⟩ := cell_block h
  rw [hb] at h1
  cases h1
  exact h2
theorem addr_add (b o k : Nat) : (⟨b, o, none⟩ : Addr).add k = ⟨b, o + k, none⟩ := by
  unfold Addr.add
  split <;> simp_all
end Go.Proofs.YtilajmcellffiaaGreatDoorX

namespace Go.Proofs.YtilajmcellffiaaGreatDoorX
open Go Go.RowKit Go.ChangeShapes Go.WideShapes Go.ChangeAt
theorem rng_i64 {x : Int} (h : Lit.wf (.int .i64 x) = true) : In64 x := by
  have h : IntKind.i64.min ≤ x ∧ x ≤ IntKind.i64.max := by simpa [Lit.wf] using h
  have e1 : IntKind.i64.min = -9223372036854775808 := rfl
  have e2 : IntKind.i64.max = 9223372036854775807 := rfl
  unfold In64; omega
theorem rng_u64 {x : Int} (h : Lit.wf (.int .u64 x) = true) : U64 x := by
  have h : IntKind.u64.min ≤ x ∧ x ≤ IntKind.u64.max := by simpa [Lit.wf] using h
  have e1 : IntKind.u64.min = 0 := rfl
  have e2 : IntKind.u64.max = 18446744073709551615 := rfl
  unfold U64; omega
theorem rng_u8 {x : Int} (h : Lit.wf (.int .u8 x) = true) : 0 ≤ x ∧ x < 256 := by
  have h : IntKind.u8.min ≤ x ∧ x ≤ IntKind.u8.max := by simpa [Lit.wf] using h
  have e1 : IntKind.u8.min = 0 := rfl
  have e2 : IntKind.u8.max = 255 := rfl
  omega
theorem rng_u32 {x : Int} (h : Lit.wf (.int .u32 x) = true) : 0 ≤ x ∧ x < 4294967296 := by
  have h : IntKind.u32.min ≤ x ∧ x ≤ IntKind.u32.max := by simpa [Lit.wf] using h
  have e1 : IntKind.u32.min = 0 := rfl
  have e2 : IntKind.u32.max = 4294967295 := rfl
  omega
theorem pick_at {cs : List Value} : ∀ {vs : List Value} {off m : Nat}, vs.length = m → (∀ j, j < m → cs[off + j]? = vs[j]?) → Pick cs off m vs
  | [], off, m, hm, h => by subst hm; exact .nil
  | v :: vs, off, m, hm, h => by
    subst hm
    refine .cons (by have := h 0 (by simp); simpa using this) (pick_at rfl fun j hj => ?_)
    have := h (j + 1) (by simp; omega)
    rw [show off + 1 + j = off + (j + 1) by omega]
    simpa using this
set_option maxRecDepth 100000 in
theorem open_rows {H : Type} {enc : TypeId × Value → H} {W : World} {r : Reach} {b0 base : Nat} {spare : Nat → Bool} {held : Bool} {v : Value} {d : DataW H} {p : List MemPlace} {α : Type} [Inhabited α] {t e k : Nat} {cells : α → List Value} {Q : α → Prop}
    (ht : Tryz.prog.underlying t = some (.slice e)) (ce : Tryz.prog.cellsOf e = k) (hk : 0 < k) (hlen : ∀ q, (cells q).length = k)
    (dec : ∀ (fuel : Nat) (cs : List Value) x, DataW.trod enc Tryz.prog W base spare held fuel e cs = some x → ∃ q, cs = cells q ∧ Q q)
    (hv : Value.okWide Tryz.prog W r b0 t v) (h : DataW.Trod enc Tryz.prog W base spare held t v d p) : ∃ xs : List α, LsX W k v (xs.map cells) ∧ ∀ a ∈ xs, Q a := by
  obtain ⟨a0, len, cap, rfl⟩ := okWide_slice ht hv
  obtain ⟨fuel, hf⟩ := h
  rcases Deep.open_slice ht hf with ⟨hc, hx⟩ | ⟨a, len', cap', m, n, D, Pl, hc, hb, hl, hm, hmm, hx, hall⟩
  · obtain ⟨rfl, rfl, rfl⟩ : a0 = none ∧ len = 0 ∧ cap = 0 := by injection hc with h1 h2; injection h1 with h1 h2 h3; exact ⟨h1, h2, h3⟩
    exact ⟨[], ⟨none, 0, rfl, fun h => absurd rfl h⟩, by simp⟩
  · obtain ⟨rfl, rfl, rfl⟩ : a0 = some a ∧ len = len' ∧ cap = cap' := by injection hc with h1 h2; injection h1 with h1 h2 h3; exact ⟨h1, h2, h3⟩
    have hlm : len ≤ m := by rw [hmm]; split <;> omega
    have each : ∀ i, i < len → ∃ q : α, W.cells? base (a.add (i * k)) k = some (cells q) ∧ Q q := fun i hi => by
      obtain ⟨cs', h1, h2⟩ := hall i (by omega)
      obtain ⟨q, rfl, hq⟩ := dec _ _ _ h2
      rw [ce] at h1
      exact ⟨q, h1, hq⟩
    obtain ⟨f, hfq⟩ := Deep.choose_lt each
    refine ⟨(List.range len).map f, ⟨some a, cap, by simp, fun hn => ?_⟩, fun x hx => by obtain ⟨i, hi, rfl⟩ := List.mem_map.1 hx; exact (hfq i (List.mem_range.1 hi)).2⟩
    have h0 : 0 < len := by
      rcases Nat.eq_zero_or_pos len with h0 | h0
      · subst h0; exact absurd rfl hn
      · exact h0
    have hcell : ∀ i, i < len → ∀ j, j < k → W.cell? ((a.add (i * k)).add j) = (cells (f i))[j]? := fun i hi => (World.cells?_some (hfq i hi).1).2.2
    have hc0 := hcell 0 h0 0 hk
    rw [List.getElem?_eq_getElem (by rw [hlen]; exact hk)] at hc0
    obtain ⟨cs, E, fz, hb', hsp, _⟩ := cell_block hc0
    obtain ⟨ab, ao, asp⟩ := a
    have e0 : ((⟨ab, ao, asp⟩ : Addr).add (0 * k)).add 0 = ⟨ab, ao, asp⟩ := by simp [Addr.add]
    rw [e0] at hb' hsp
    obtain rfl : asp = none := hsp
    refine ⟨ab, ao, cs.toList, E, fz, rfl, by simpa using hb', fun i x hx => ?_⟩
    have hi : i < len := by
      rcases Nat.lt_or_ge i len with h1 | h1
      · exact h1
      · rw [List.getElem?_eq_none (by simpa using h1)] at hx; cases hx
    have hx' : cells (f i) = x := by
      rw [List.getElem?_map, List.getElem?_map, List.getElem?_range hi] at hx
      exact Option.some.inj hx
    subst hx'
    refine pick_at (hlen _) fun j hj => ?_
    have g0 := hcell i hi j hj
    rw [addr_add, addr_add] at g0
    have g1 : (cells (f i))[j]? = some ((cells (f i))[j]'(by rw [hlen]; exact hj)) := List.getElem?_eq_getElem _
    rw [g1] at g0
    have := cell_of_block g0 hb'
    rw [g1]
    simpa [Nat.add_assoc] using this
end Go.Proofs.YtilajmcellffiaaGreatDoorX

namespace Go.Proofs.YtilajmcellffiaaGreatDoorX
theorem sn_tri {a b c : Int} (h0 : -9223372036854775808 ≤ sn a b - sn c b) (h1 : sn a b - sn c b < 9223372036854775808) : sn a c = sn a b - sn c b := by unfold sn at *; omega
theorem sn_lat {b k : Int} (h : In64 k) : sn (lat b k) b = k := by unfold sn lat; unfold In64 at h; omega
theorem lat_sn {t b : Int} (h : U64 t) : lat b (sn t b) = t := by unfold sn lat; unfold U64 at h; omega
theorem lat_zero {b : Int} (h : U64 b) : lat b 0 = b := by unfold lat; unfold U64 at h; omega
theorem sn_self (b : Int) : sn b b = 0 := by unfold sn; omega
def Near (x y : Int) : Prop := -9223372036854775808 ≤ x - y ∧ x - y < 9223372036854775808
theorem sn_near {a c b : Int} (h : Near (sn a b) (sn c b)) : sn a c = sn a b - sn c b := sn_tri h.1 h.2
theorem mul_lt_cancel {c a b : Int} (hc : 0 < c) (h : c * a ≤ c * b) : a ≤ b := Int.le_of_mul_le_mul_left h hc
theorem fr_trans {a b c p q r : Int} (hp : 0 < p) (hq : 0 < q) (hr : 0 < r) (h1 : a * q ≤ b * p) (h2 : b * r ≤ c * q) : a * r ≤ c * p := by
  have k1 := Int.mul_le_mul_of_nonneg_right h1 (Int.le_of_lt hr)
  have k2 := Int.mul_le_mul_of_nonneg_right h2 (Int.le_of_lt hp)
  refine mul_lt_cancel hq ?_
  have e1 : q * (a * r) = a * q * r := by grind
  have e2 : b * p * r = b * r * p := by grind
  have e3 : c * q * p = q * (c * p) := by grind
  omega
theorem pright_all {p : Pt} (hp : p.In) (h : p.right = true) : 1 ≤ p.w ∧ p.w ≤ 1048576 ∧ 0 ≤ p.r ∧ p.r < p.w := by
  unfold Pt.right at h
  simp only [Bool.and_eq_true, decide_eq_true_eq] at h
  have := mayW_iff.1 h.1
  exact ⟨this.1, this.2, hp.2.1.1, h.2⟩
theorem cmpP_frac {p q : Pt} (hp : p.In) (hq : q.In) (h1 : p.right = true) (h2 : q.right = true) {b : Int} (hn : Near (sn q.t b) (sn p.t b)) : cmpP p q = cmpI (dist p b * q.w) (dist q b * p.w) := by
  have a1 := pright_all hp h1
  have a2 := pright_all hq h2
  unfold cmpP
  rw [sn_near hn]
  have d1 : dist p b = p.w * sn p.t b + p.r := rfl
  have d2 : dist q b = q.w * sn q.t b + q.r := rfl
  generalize sn p.t b = x at *
  generalize sn q.t b = y at *
  have e1 : dist p b * q.w = p.w * q.w * x + p.r * q.w := by rw [d1]; grind
  have e2 : dist q b * p.w = p.w * q.w * y + q.r * p.w := by rw [d2]; grind
  have m0 : 0 < p.w * q.w := Int.mul_pos (by omega) (by omega)
  have m1 : 0 ≤ p.r * q.w := Int.mul_nonneg (by omega) (by omega)
  have m2 : 0 ≤ q.r * p.w := Int.mul_nonneg (by omega) (by omega)
  have m3 : p.r * q.w < p.w * q.w := Int.mul_lt_mul_of_pos_right (by omega) (by omega)
  have m4 : q.r * p.w < p.w * q.w := by rw [Int.mul_comm p.w]; exact Int.mul_lt_mul_of_pos_right (by omega) (by omega)
  rw [e1, e2]
  generalize p.w * q.w = W at *
  generalize p.r * q.w = u at *
  generalize q.r * p.w = v at *
  rcases Int.lt_trichotomy x y with h | h | h
  · have : W * x + W ≤ W * y := by have := Int.mul_le_mul_of_nonneg_left (show x + 1 ≤ y by omega) (Int.le_of_lt m0); rwa [Int.mul_add, Int.mul_one] at this
    have c1 : cmpI 0 (y - x) = -1 := by unfold cmpI; rw [if_pos (by omega)]
    rw [c1, if_neg (by decide)]
    unfold cmpI; rw [if_pos (by omega)]
  · subst h
    have c1 : cmpI 0 (x - x) = 0 := by unfold cmpI; rw [if_neg (by omega), if_neg (by omega)]
    rw [if_pos c1]
    unfold cmpI
    by_cases k : u < v
    · rw [if_pos k, if_pos (by omega)]
    · rw [if_neg k, if_neg (show ¬ W * x + u < W * x + v by omega)]
      by_cases k' : v < u
      · rw [if_pos k', if_pos (by omega)]
      · rw [if_neg k', if_neg (by omega)]
  · have : W * y + W ≤ W * x := by have := Int.mul_le_mul_of_nonneg_left (show y + 1 ≤ x by omega) (Int.le_of_lt m0); rwa [Int.mul_add, Int.mul_one] at this
    have c1 : cmpI 0 (y - x) = 1 := by unfold cmpI; rw [if_neg (by omega), if_pos (by omega)]
    rw [c1, if_neg (by decide)]
    unfold cmpI; rw [if_neg (by omega), if_pos (by omega)]
theorem lex_ord {α : Type} {c : α → α → Int} {lt2 : α → α → Bool} {S : α → Prop} (le : α → α → Prop) (h1 : ∀ a b, S a → S b → (c a b < 0 ↔ ¬ le b a)) (h0 : ∀ a b, S a → S b → (c a b = 0 ↔ le a b ∧ le b a)) (tot : ∀ a b, S a → S b → le a b ∨ le b a)
    (tr : ∀ a b d, S a → S b → S d → le a b → le b d → le a d) (o : OrdOn lt2 S) : OrdOn (fun a b => decide (c a b < 0) || (decide (c a b = 0) && lt2 a b)) S where
  irr a ha := by
    have k1 := h1 a a ha ha
    have := tot a a ha ha
    simp only [o.irr a ha, Bool.and_false, Bool.or_false, decide_eq_false_iff_not, k1]
    rcases this with h | h <;> exact fun k => k h
  tr a b d ha hb hd k1 k2 := by
    simp only [Bool.or_eq_true, Bool.and_eq_true, decide_eq_true_eq] at k1 k2 ⊢
    rw [h1 a b ha hb, h0 a b ha hb] at k1
    rw [h1 b d hb hd, h0 b d hb hd] at k2
    rw [h1 a d ha hd, h0 a d ha hd]
    have tab := tot a b ha hb
    have tbd := tot b d hb hd
    have x1 := tr d a b hd ha hb
    have x2 := tr b d a hb hd ha
    have x3 := tr a b d ha hb hd
    have x4 := tr d b a hd hb ha
    rcases k1 with k1 | ⟨⟨k1, k1'⟩, k3⟩
    · left; intro hda
      rcases k2 with k2 | ⟨⟨k2, k2'⟩, k4⟩
      · rcases tbd with h | h
        · exact k1 (x2 h hda)
        · exact k2 h
      · exact k1 (x2 k2 hda)
    · rcases k2 with k2 | ⟨⟨k2, k2'⟩, k4⟩
      · left; intro hda
        exact k2 (x1 hda k1)
      · right; exact ⟨⟨x3 k1 k2, x4 k2' k1'⟩, o.tr a b d ha hb hd k3 k4⟩
  tri a b ha hb k1 k2 := by
    simp only [Bool.or_eq_false_iff, Bool.and_eq_false_iff, decide_eq_false_iff_not] at k1 k2
    rw [h1 a b ha hb, h0 a b ha hb] at k1
    rw [h1 b a hb ha, h0 b a hb ha] at k2
    have q1 : le b a := Classical.not_not.1 k1.1
    have q2 : le a b := Classical.not_not.1 k2.1
    rcases k1.2 with h | h
    · exact absurd ⟨q2, q1⟩ h
    · rcases k2.2 with h' | h'
      · exact absurd ⟨q1, q2⟩ h'
      · exact o.tri a b ha hb h h'
structure Win (b lo : Int) (x : It) : Prop where
  isin : x.In
  right : x.right = true
  low : lo ≤ sn x.p.t b
  high : sn x.p.t b + sn x.d.t x.p.t ≤ lo + 4611686018427387904
theorem iright_all {x : It} (hx : x.In) (h : x.right = true) : x.p.right = true ∧ x.d.right = true ∧ x.p.w = x.d.w ∧ 0 < x.id ∧ 0 ≤ sn x.d.t x.p.t ∧ sn x.d.t x.p.t ≤ 1152921504606846976 ∧ (1 ≤ x.p.w ∧ x.p.w ≤ 1048576 ∧ 0 ≤ x.p.r ∧ x.p.r < x.p.w) ∧ 0 ≤ x.d.r ∧ x.d.r < x.p.w := by
  unfold It.right at h
  simp only [Bool.and_eq_true, decide_eq_true_eq] at h
  obtain ⟨⟨⟨⟨⟨h1, h2⟩, h3⟩, h4⟩, h5⟩, h6⟩ := h
  have a1 := pright_all hx.1 h1
  have a2 := pright_all hx.2.2 h2
  exact ⟨h1, h2, h3, h4, h5, h6, a1, a2.2.2.1, by omega⟩
def Mid (lo : Int) : Prop := -4611686018427387904 ≤ lo ∧ lo ≤ 0
theorem Win.dead {b lo : Int} {x : It} (h : Win b lo x) (hm : Mid lo) : sn x.d.t b = sn x.p.t b + sn x.d.t x.p.t ∧ 0 ≤ sn x.d.t x.p.t ∧ sn x.p.t b ≤ lo + 4611686018427387904 := by
  obtain ⟨_, _, _, _, h5, h6, _⟩ := iright_all h.isin h.right
  have h1 := h.low
  have h2 := h.high
  unfold Mid at hm
  refine ⟨?_, h5, by omega⟩
  unfold sn at *; omega
theorem Win.move {b lo c : Int} {x : It} (h : Win b lo x) (hm : Mid lo) (h0 : lo ≤ sn c b) (h1 : sn c b ≤ lo + 4611686018427387904) : Win c (lo - sn c b) x ∧ sn x.p.t c = sn x.p.t b - sn c b := by
  have d := h.dead hm
  have k1 := h.low
  have k2 := h.high
  unfold Mid at hm
  have e : sn x.p.t c = sn x.p.t b - sn c b := sn_tri (by omega) (by omega)
  exact ⟨⟨h.isin, h.right, by omega, by omega⟩, e⟩
theorem dist_move {p : Pt} {b c k : Int} (e : sn p.t c = sn p.t b - k) : dist p c = dist p b - p.w * k := by
  unfold dist; rw [e, Int.mul_sub]; omega
def leP (b : Int) (p q : Pt) : Prop := dist p b * q.w ≤ dist q b * p.w
theorem cmp_le {p q : Pt} {b : Int} (e : cmpP p q = cmpI (dist p b * q.w) (dist q b * p.w)) : (cmpP p q < 0 ↔ ¬ leP b q p) ∧ (cmpP p q = 0 ↔ leP b p q ∧ leP b q p) := by
  rw [e]; unfold leP cmpI
  split
  · constructor <;> constructor <;> intro <;> first | omega | skip
  · split
    · constructor <;> constructor <;> intro <;> first | omega | skip
    · constructor <;> constructor <;> intro <;> first | omega | skip
theorem ahead_ord {b lo : Int} (hm : Mid lo) {S : It → Prop} (hS : ∀ x, S x → Win b lo x) (hi : ∀ x y, S x → S y → x.id = y.id → x = y) : OrdOn ahead S := by
  have hc : ∀ x y, S x → S y → cmpP x.p y.p = cmpI (dist x.p b * y.p.w) (dist y.p b * x.p.w) := fun x y hx hy => by
    have a1 := hS x hx
    have a2 := hS y hy
    have d1 := a1.dead hm
    have d2 := a2.dead hm
    have l1 := a1.low
    have l2 := a2.low
    exact cmpP_frac a1.isin.1 a2.isin.1 (iright_all a1.isin a1.right).1 (iright_all a2.isin a2.right).1 (by unfold Near; unfold Mid at hm; omega)
  have hw : ∀ x, S x → 0 < x.p.w := fun x hx => by have := (iright_all (hS x hx).isin (hS x hx).right).2.2.2.2.2.2.1; omega
  have oid : OrdOn (fun x y : It => decide (x.id < y.id)) S := by
    constructor
    · intro a _; simp
    · intro a b c _ _ _ h1 h2; simp only [decide_eq_true_eq] at *; omega
    · intro a b ha hb h1 h2; simp only [decide_eq_false_iff_not] at *; exact hi a b ha hb (by omega)
  exact lex_ord (c := fun x y : It => cmpP x.p y.p) (fun x y => leP b x.p y.p) (fun x y hx hy => (cmp_le (hc x y hx hy)).1) (fun x y hx hy => (cmp_le (hc x y hx hy)).2) (fun x y _ _ => Int.le_total _ _) (fun x y z hx hy hz h1 h2 => fr_trans (hw x hx) (hw y hy) (hw z hz) h1 h2) oid
theorem due_ord {b lo : Int} (hm : Mid lo) {S : It → Prop} (hS : ∀ x, S x → Win b lo x) (hi : ∀ x y, S x → S y → x.id = y.id → x = y) : OrdOn due S := by
  have hc : ∀ x y, S x → S y → cmpP x.d y.d = cmpI (dist x.d b * y.d.w) (dist y.d b * x.d.w) := fun x y hx hy => by
    have a1 := hS x hx
    have a2 := hS y hy
    have d1 := a1.dead hm
    have d2 := a2.dead hm
    have l1 := a1.low
    have l2 := a2.low
    have r1 := iright_all a1.isin a1.right
    have r2 := iright_all a2.isin a2.right
    have u1 := a1.high
    have u2 := a2.high
    exact cmpP_frac a1.isin.2.2 a2.isin.2.2 r1.2.1 r2.2.1 (by unfold Near; unfold Mid at hm; omega)
  have hw : ∀ x, S x → 0 < x.d.w := fun x hx => by
    have := iright_all (hS x hx).isin (hS x hx).right
    have h3 := this.2.2.1
    have h4 := this.2.2.2.2.2.2.1
    omega
  exact lex_ord (c := fun x y : It => cmpP x.d y.d) (fun x y => leP b x.d y.d) (fun x y hx hy => (cmp_le (hc x y hx hy)).1) (fun x y hx hy => (cmp_le (hc x y hx hy)).2) (fun x y _ _ => Int.le_total _ _) (fun x y z hx hy hz h1 h2 => fr_trans (hw x hx) (hw y hy) (hw z hz) h1 h2) (ahead_ord hm hS hi)
end Go.Proofs.YtilajmcellffiaaGreatDoorX

namespace Go.Proofs.YtilajmcellffiaaGreatDoorX
def sumD (b : Int) : List It → Int
  | [] => 0
  | a :: l => dist a.p b + sumD b l
def sumW : List It → Int
  | [] => 0
  | a :: l => a.p.w + sumW l
theorem sumD_perm {b : Int} {l l' : List It} (h : l.Perm l') : sumD b l = sumD b l' := by
  induction h with
  | nil => rfl
  | cons _ _ ih => simp only [sumD, ih]
  | swap _ _ _ => simp only [sumD]; omega
  | trans _ _ h1 h2 => rw [h1, h2]
theorem sumW_perm {l l' : List It} (h : l.Perm l') : sumW l = sumW l' := by
  induction h with
  | nil => rfl
  | cons _ _ ih => simp only [sumW, ih]
  | swap _ _ _ => simp only [sumW]; omega
  | trans _ _ h1 h2 => rw [h1, h2]
theorem sum_rng {b lo hi : Int} : ∀ {l : List It}, (∀ x ∈ l, x.In ∧ x.right = true ∧ lo ≤ sn x.p.t b ∧ sn x.p.t b ≤ hi) → sumW l * lo ≤ sumD b l ∧ sumD b l + l.length ≤ sumW l * (hi + 1) ∧ (l.length : Int) ≤ sumW l ∧ sumW l ≤ l.length * 1048576
  | [], _ => by simp [sumD, sumW]
  | a :: l, h => by
    obtain ⟨h1, h2, h3, h4⟩ := sum_rng fun x hx => h x (List.mem_cons_of_mem _ hx)
    obtain ⟨k1, k2, k3, k4⟩ := h a List.mem_cons_self
    obtain ⟨_, _, _, _, _, _, ⟨w1, w2, w3, w4⟩, _⟩ := iright_all k1 k2
    have m1 : a.p.w * lo ≤ a.p.w * sn a.p.t b := Int.mul_le_mul_of_nonneg_left k3 (by omega)
    have m2 : a.p.w * sn a.p.t b ≤ a.p.w * hi := Int.mul_le_mul_of_nonneg_left k4 (by omega)
    simp only [sumD, sumW, dist, List.length_cons, Int.add_mul, Int.mul_add, Int.mul_one] at *
    omega
theorem Win.rng {b lo : Int} {x : It} (h : Win b lo x) (hm : Mid lo) : x.In ∧ x.right = true ∧ lo ≤ sn x.p.t b ∧ sn x.p.t b ≤ lo + 4611686018427387904 := ⟨h.isin, h.right, h.low, (h.dead hm).2.2⟩
structure IsM (m : Mn) (l : List It) : Prop where
  a : m.a = sumD m.b l
  w : m.w = sumW l
  n : m.n = l.length
theorem IsM.perm {m : Mn} {l l' : List It} (h : IsM m l) (p : l.Perm l') : IsM m l' := ⟨h.a.trans (sumD_perm p), h.w.trans (sumW_perm p), by rw [h.n, p.length_eq]⟩
def AllW (b lo : Int) (l : List It) : Prop := Mid lo ∧ l.length ≤ 32 ∧ ∀ x ∈ l, Win b lo x
theorem AllW.sum {b lo : Int} {l : List It} (h : AllW b lo l) : sumW l * lo ≤ sumD b l ∧ sumD b l + l.length ≤ sumW l * (lo + 4611686018427387904 + 1) ∧ (l.length : Int) ≤ sumW l ∧ sumW l ≤ l.length * 1048576 := sum_rng fun x hx => (h.2.2 x hx).rng h.1
theorem AllW.inW {b lo : Int} {l : List It} (h : AllW b lo l) : InW (sumD b l) := by
  obtain ⟨h1, h2, h3, h4⟩ := h.sum
  obtain ⟨⟨m1, m2⟩, hl, _⟩ := h
  have k1 : sumW l * (-4611686018427387904) ≤ sumW l * lo := Int.mul_le_mul_of_nonneg_left m1 (by omega)
  have k2 : sumW l * (lo + 4611686018427387904 + 1) ≤ sumW l * 4611686018427387905 := Int.mul_le_mul_of_nonneg_left (by omega) (by omega)
  unfold InW; omega
theorem AllW.right {m : Mn} {lo : Int} {l : List It} (h : AllW m.b lo l) (k : IsM m l) : m.right = true := by
  obtain ⟨h1, h2, h3, h4⟩ := h.sum
  have hl := h.2.1
  rw [mright_iff]
  have e1 := k.a
  have e2 := k.w
  have e3 := k.n
  cases l with
  | nil => left; simp only [sumD, sumW, List.length_nil] at *; omega
  | cons x l => right; simp only [List.length_cons] at *; omega
theorem AllW.perm {b lo : Int} {l l' : List It} (h : AllW b lo l) (p : l.Perm l') : AllW b lo l' := ⟨h.1, by rw [← p.length_eq]; exact h.2.1, fun x hx => h.2.2 x (p.mem_iff.2 hx)⟩
theorem AllW.tail {b lo : Int} {a : It} {l : List It} (h : AllW b lo (a :: l)) : AllW b lo l := ⟨h.1, by have := h.2.1; simp only [List.length_cons] at this; omega, fun x hx => h.2.2 x (List.mem_cons_of_mem _ hx)⟩
theorem AllW.head {b lo : Int} {a : It} {l : List It} (h : AllW b lo (a :: l)) : Win b lo a := h.2.2 a List.mem_cons_self
theorem add_is {m : Mn} {lo : Int} {a : It} {l : List It} (h : AllW m.b lo (a :: l)) (k : IsM m l) : ∃ m', addM m a.p = some m' ∧ m'.b = m.b ∧ IsM m' (a :: l) := by
  have hr := h.tail.right k
  have hp := (iright_all h.head.isin h.head.right).1
  have hw := h.inW
  have hl := h.2.1
  have e1 := k.a
  have e2 := k.w
  have e3 := k.n
  simp only [List.length_cons] at hl
  simp only [sumD] at hw
  refine ⟨_, if_pos ⟨hr, hp, by omega, by rw [e1, Int.add_comm]; exact hw⟩, rfl, ?_⟩
  constructor
  · simp only [sumD]; omega
  · simp only [sumW]; omega
  · simp only [List.length_cons]; omega
theorem take_is {m : Mn} {lo : Int} {a : It} {l : List It} (h : AllW m.b lo (a :: l)) (k : IsM m (a :: l)) : takM m a.p = some (lessM m a.p) ∧ IsM (lessM m a.p) l := by
  have hr := h.right k
  have hp := (iright_all h.head.isin h.head.right).1
  have hw := h.tail.inW
  have e1 := k.a
  have e2 := k.w
  have e3 := k.n
  have hs := h.tail.sum.2.2.1
  simp only [sumD, sumW, List.length_cons] at e1 e2 e3
  have i : IsM (lessM m a.p) l := ⟨by simp only [lessM]; omega, by simp only [lessM]; omega, by simp only [lessM]; omega⟩
  refine ⟨if_pos ⟨hr, hp, by omega, by omega, ?_, (show AllW (lessM m a.p).b lo l from h.tail).right i⟩, i⟩
  rw [show m.a - dist a.p m.b = sumD m.b l by omega]; exact hw
theorem AllW.mid {b lo : Int} {l : List It} (h : AllW b lo l) (hl : l ≠ []) : 0 < sumW l ∧ lo ≤ sumD b l / sumW l ∧ sumD b l / sumW l ≤ lo + 4611686018427387904 := by
  obtain ⟨h1, h2, h3, h4⟩ := h.sum
  have hp : 0 < l.length := List.length_pos_iff.2 hl
  refine ⟨by omega, Int.le_ediv_of_mul_le (by omega) (by rw [Int.mul_comm]; exact h1), ?_⟩
  have := Int.ediv_lt_of_lt_mul (a := sumD b l) (b := lo + 4611686018427387904 + 1) (c := sumW l) (by omega) (by rw [Int.mul_comm]; omega)
  omega
theorem floor_is {m : Mn} {lo : Int} {l : List It} (h : AllW m.b lo l) (k : IsM m l) (hl : l ≠ []) : flM m = some (lat m.b (sumD m.b l / sumW l)) := by
  obtain ⟨h1, h2, h3⟩ := h.mid hl
  have hm := h.1
  unfold Mid at hm
  have hn : m.n ≠ 0 := by rw [k.n]; have := List.length_pos_iff.2 hl; omega
  unfold flM
  rw [← k.a, ← k.w] at *
  exact if_pos ⟨h.right k, hn, by unfold In64; omega⟩
theorem sumD_move {b c k : Int} : ∀ {l : List It}, (∀ x ∈ l, sn x.p.t c = sn x.p.t b - k) → sumD c l = sumD b l - sumW l * k
  | [], _ => by simp [sumD, sumW]
  | a :: l, h => by
    simp only [sumD, sumW]
    rw [sumD_move fun x hx => h x (List.mem_cons_of_mem _ hx), dist_move (h a List.mem_cons_self), Int.add_mul]; omega
structure Cen (m : Mn) (l : List It) : Prop where
  is : IsM m l
  u : U64 m.b
  a0 : 0 ≤ m.a
  a1 : m.a < m.w
  all : ∃ lo, AllW m.b lo l
theorem AllW.move {b lo c : Int} {l : List It} (h : AllW b lo l) (h0 : lo ≤ sn c b) (h1 : sn c b ≤ lo + 4611686018427387904) : AllW c (lo - sn c b) l ∧ ∀ x ∈ l, sn x.p.t c = sn x.p.t b - sn c b := by
  have hm := h.1
  unfold Mid at hm
  exact ⟨⟨by unfold Mid; omega, h.2.1, fun x hx => ((h.2.2 x hx).move h.1 h0 h1).1⟩, fun x hx => ((h.2.2 x hx).move h.1 h0 h1).2⟩
theorem centre_is {m : Mn} {lo : Int} {l : List It} (h : AllW m.b lo l) (k : IsM m l) (hl : l ≠ []) : ∃ m', rebM m ((flM m).getD 0) = some m' ∧ Cen m' l := by
  obtain ⟨h1, h2, h3⟩ := h.mid hl
  have hm := h.1
  have hf := floor_is h k hl
  rw [hf, Option.getD_some]
  unfold Mid at hm
  have e : sn (lat m.b (sumD m.b l / sumW l)) m.b = sumD m.b l / sumW l := sn_lat (by unfold In64; omega)
  have hM := h.move (c := lat m.b (sumD m.b l / sumW l)) (by rw [e]; exact h2) (by rw [e]; exact h3)
  rw [e] at hM
  have hs := sumD_move hM.2
  have ea := k.a
  have ew := k.w
  have em : m.a - m.w * (sumD m.b l / sumW l) = sumD m.b l % sumW l := by rw [ea, ew]; have := Int.mul_ediv_add_emod (sumD m.b l) (sumW l); omega
  have n0 := Int.emod_nonneg (sumD m.b l) (show sumW l ≠ 0 by omega)
  have n1 := Int.emod_lt_of_pos (sumD m.b l) h1
  have hi : InW (sumD m.b l % sumW l) := by
    have := h.sum.2.2.2
    have := h.2.1
    unfold InW; omega
  refine ⟨_, if_pos ⟨h.right k, by rw [e, em]; exact hi⟩, ⟨⟨?_, ew, k.n⟩, lat_in _ _, ?_, ?_, _, hM.1⟩⟩
  · show m.a - m.w * sn _ m.b = sumD _ l
    rw [e, hs, ea, ew]
  · show 0 ≤ m.a - m.w * sn _ m.b
    rw [e, em]; exact n0
  · show m.a - m.w * sn _ m.b < m.w
    rw [e, em, ew]; exact n1
theorem Cen.now {m : Mn} {l : List It} (h : Cen m l) (hl : l ≠ []) : flM m = some m.b := by
  obtain ⟨lo, k⟩ := h.all
  rw [floor_is k h.is hl, ← h.is.a, ← h.is.w, Int.ediv_eq_zero_of_lt h.a0 h.a1, lat_zero h.u]
def meanL : List It → Mn
  | [] => .zero
  | x :: l => ⟨lat x.p.t (sumD x.p.t (x :: l) / sumW (x :: l)), sumD x.p.t (x :: l) % sumW (x :: l), sumW (x :: l), (x :: l).length⟩
theorem Cen.perm {m : Mn} {l l' : List It} (h : Cen m l) (p : l.Perm l') : Cen m l' := by
  obtain ⟨lo, k⟩ := h.all
  exact ⟨h.is.perm p, h.u, h.a0, h.a1, lo, k.perm p⟩
theorem Cen.eq {m : Mn} : ∀ {l : List It}, Cen m l → l ≠ [] → m = meanL l
  | [], _, h => absurd rfl h
  | x :: l, h, _ => by
    obtain ⟨lo, k⟩ := h.all
    have d := k.head.dead k.1
    have hM := k.move (c := x.p.t) k.head.low d.2.2
    have hs := sumD_move hM.2
    have e := lat_sn (b := m.b) k.head.isin.1.1
    show m = ⟨lat x.p.t (sumD x.p.t (x :: l) / sumW (x :: l)), sumD x.p.t (x :: l) % sumW (x :: l), sumW (x :: l), (x :: l).length⟩
    rw [hs, ← h.is.a, ← h.is.w, ← h.is.n]
    have hw : 0 < m.w := by have := h.a0; have := h.a1; omega
    have q : (m.a - m.w * sn x.p.t m.b) / m.w = - sn x.p.t m.b := by
      rw [Int.sub_eq_add_neg, ← Int.mul_neg, Int.add_mul_ediv_left _ _ (by omega), Int.ediv_eq_zero_of_lt h.a0 h.a1]; omega
    have r : (m.a - m.w * sn x.p.t m.b) % m.w = m.a := by
      rw [Int.sub_eq_add_neg, ← Int.mul_neg, Int.add_mul_emod_self_left, Int.emod_eq_of_lt h.a0 h.a1]
    rw [q, r]
    have : lat x.p.t (- sn x.p.t m.b) = m.b := by
      have hu := h.u
      have := e
      unfold U64 at hu
      unfold lat at *; omega
    rw [this]
end Go.Proofs.YtilajmcellffiaaGreatDoorX

namespace Go.Proofs.YtilajmcellffiaaGreatDoorX
open IB (IT)
namespace RB
variable {α : Type} {lt : α → α → Bool} {S : α → Prop} {x : α}
theorem insL_perm (x : α) : ∀ l : List α, (insL lt x l).Perm (x :: l)
  | [] => .refl _
  | y :: l => by
    unfold insL
    cases lt x y
    · exact ((insL_perm x l).cons y).trans (.swap _ _ _)
    · exact .refl _
theorem insL_srt (ho : OrdOn lt S) (hx : S x) : ∀ {l : List α}, (∀ z ∈ l, S z) → Srt lt l → x ∉ l → Srt lt (insL lt x l)
  | [], _, _, _ => List.pairwise_singleton _ _
  | y :: l, hS, h, hn => by
    obtain ⟨h1, h2⟩ := List.pairwise_cons.1 h
    have hy := hS y List.mem_cons_self
    unfold insL
    cases e : lt x y
    · have hyx : lt y x = true := by
        cases e' : lt y x
        · exact absurd (ho.tri x y hx hy e e') (fun h => hn (by rw [h]; exact List.mem_cons_self))
        · rfl
      refine List.pairwise_cons.2 ⟨fun z hz => ?_, insL_srt ho hx (fun z hz => hS z (List.mem_cons_of_mem _ hz)) h2 (fun hm => hn (List.mem_cons_of_mem _ hm))⟩
      rcases List.mem_cons.1 ((insL_perm x l).mem_iff.1 hz) with rfl | hz
      · exact hyx
      · exact h1 z hz
    · refine List.pairwise_cons.2 ⟨fun z hz => ?_, h⟩
      rcases List.mem_cons.1 hz with rfl | hz
      · exact e
      · exact ho.tr x y z hx hy (hS z (List.mem_cons_of_mem _ hz)) e (h1 z hz)
theorem srt_nodup (ho : OrdOn lt S) {l : List α} (hS : ∀ z ∈ l, S z) (h : Srt lt l) : l.Nodup := by
  refine List.Pairwise.imp_of_mem (fun {a b} ha hb hab e => ?_) h
  subst e
  rw [ho.irr a (hS a ha)] at hab; cases hab
theorem sans_perm [DecidableEq α] {l : List α} (h : l.Nodup) (hx : x ∈ l) : l.Perm (x :: sans x l) := by
  induction l with
  | nil => cases hx
  | cons y l ih =>
    obtain ⟨h1, h2⟩ := List.nodup_cons.1 h
    by_cases e : y = x
    · subst e
      rw [sans_self, sans_none (fun z hz he => h1 (by rw [← he]; exact hz))]
    · rw [sans_cons e]
      exact ((ih h2 ((List.mem_cons.1 hx).resolve_left (fun h => e h.symm))).cons y).trans (.swap _ _ _)
end RB
theorem ordT {L : List IT} {b lo : Int} (h : ∀ x ∈ L, Win b lo x.1) (hm : Mid lo) (hi : ∀ x ∈ L, ∀ y ∈ L, x.1.id = y.1.id → x = y) : OrdOn IB.ltT (· ∈ L) := by
  have o := ahead_ord (b := b) (lo := lo) (S := fun z => ∃ y ∈ L, y.1 = z) hm (by rintro _ ⟨y, hy, rfl⟩; exact h y hy) (by rintro _ _ ⟨y, hy, rfl⟩ ⟨z, hz, rfl⟩ e; rw [hi y hy z hz e])
  exact ⟨fun a ha => o.irr a.1 ⟨a, ha, rfl⟩, fun a b c ha hb hc => o.tr a.1 b.1 c.1 ⟨a, ha, rfl⟩ ⟨b, hb, rfl⟩ ⟨c, hc, rfl⟩, fun a b ha hb k1 k2 => Subtype.ext (o.tri a.1 b.1 ⟨a, ha, rfl⟩ ⟨b, hb, rfl⟩ k1 k2)⟩
theorem dueT {L : List IT} {b lo : Int} (h : ∀ x ∈ L, Win b lo x.1) (hm : Mid lo) (hi : ∀ x ∈ L, ∀ y ∈ L, x.1.id = y.1.id → x = y) : OrdOn (fun x y : IT => due x.1 y.1) (· ∈ L) := by
  have o := due_ord (b := b) (lo := lo) (S := fun z => ∃ y ∈ L, y.1 = z) hm (by rintro _ ⟨y, hy, rfl⟩; exact h y hy) (by rintro _ _ ⟨y, hy, rfl⟩ ⟨z, hz, rfl⟩ e; rw [hi y hy z hz e])
  exact ⟨fun a ha => o.irr a.1 ⟨a, ha, rfl⟩, fun a b c ha hb hc => o.tr a.1 b.1 c.1 ⟨a, ha, rfl⟩ ⟨b, hb, rfl⟩ ⟨c, hc, rfl⟩, fun a b ha hb k1 k2 => Subtype.ext (o.tri a.1 b.1 ⟨a, ha, rfl⟩ ⟨b, hb, rfl⟩ k1 k2)⟩
theorem delC_ok {a : IT} {t : RB IT} {S : IT → Prop} (ho : OrdOn IB.ltT S) (hg : RB.Good t) (hs : RB.Srt IB.ltT t.list) (hS : ∀ z ∈ t.list, S z) (ha : a ∈ t.list) : ∃ t', IB.delC a t = some t' ∧ (∃ h, RB.Ok t' h) ∧ t'.list = RB.sans a t.list := by
  cases t with
  | nil => cases ha
  | node l y r c =>
    obtain ⟨hc, h, hk⟩ := hg
    obtain rfl : c = false := hc
    obtain ⟨h', rfl, hl, hr, hrr⟩ := hk.inv_black
    have hq : ∃ h', RB.Ok (.node l y r (IB.rootC l r false)) h' ∧ (IB.rootC l r false = true ∨ l.red = true) := by
      unfold IB.rootC
      rw [hrr]
      cases e : l.red
      · exact ⟨_, .red hl hr e hrr, .inl rfl⟩
      · exact ⟨_, .black hl hr hrr, .inr rfl⟩
    obtain ⟨h2, hok, hc⟩ := hq
    obtain ⟨t1, e1, e2⟩ := RB.cut_ok ho (RB.node l y r false).list.length (.node l y r (IB.rootC l r false)) h2 hok rfl hc (Nat.le_refl _) ⟨hs, hS, ha⟩
    exact ⟨t1, e1, ⟨_, e2.ok⟩, e2.list⟩
end Go.Proofs.YtilajmcellffiaaGreatDoorX

namespace Go.Proofs.YtilajmcellffiaaGreatDoorX
open IB (IT)
structure QI (s : Qs) : Prop where
  good : RB.Good s.t
  srt : RB.Srt IB.ltT s.t.list
  f : ∀ i a, s.f i = some a ↔ a ∈ s.t.list ∧ a.1.id = i
  n : s.n = s.t.list.length
  len : s.t.list.length ≤ 32
  cen : s.t.list ≠ [] → Cen s.m (plain s.t.list)
  nil : s.t.list = [] → s.m.a = 0 ∧ s.m.w = 0 ∧ s.m.n = 0
theorem QI.inj {s : Qs} (h : QI s) : ∀ x ∈ s.t.list, ∀ y ∈ s.t.list, x.1.id = y.1.id → x = y := fun x hx y hy e => by
  have h1 := (h.f _ x).2 ⟨hx, rfl⟩
  have h2 := (h.f _ y).2 ⟨hy, e.symm⟩
  rw [h1] at h2; exact Option.some.inj h2
theorem plain_ne {l : List IT} (h : l ≠ []) : plain l ≠ [] := fun e => h (List.map_eq_nil_iff.1 e)
theorem plain_perm {l l' : List IT} (h : l.Perm l') : (plain l).Perm (plain l') := h.map _
theorem plain_win {l : List IT} {b lo : Int} (h : AllW b lo (plain l)) : ∀ x ∈ l, Win b lo x.1 := fun x hx => h.2.2 _ (List.mem_map_of_mem hx)
theorem QI.win {s : Qs} (h : QI s) : ∃ lo, AllW s.m.b lo (plain s.t.list) := by
  by_cases e : s.t.list = []
  · rw [e]; exact ⟨0, by unfold Mid; omega, by simp [plain], by simp [plain]⟩
  · exact (h.cen e).all
theorem QI.ord {s : Qs} (h : QI s) : OrdOn IB.ltT (· ∈ s.t.list) := by
  obtain ⟨lo, k⟩ := h.win
  exact ordT (plain_win k) k.1 h.inj
theorem nowQ_ne {s : Qs} (h : s.t.list ≠ []) : nowQ s = (flM s.m).getD 0 := by
  unfold nowQ
  rw [decide_eq_false (fun e => h (List.eq_nil_of_length_eq_zero e)), cond_false]
theorem nowQ_nil {s : Qs} (h : s.t.list = []) : nowQ s = s.c := by
  unfold nowQ
  rw [h]; rfl
theorem QI.now {s : Qs} (h : QI s) (e : s.t.list ≠ []) : nowQ s = s.m.b := by
  rw [nowQ_ne e, (h.cen e).now (plain_ne e)]; rfl
theorem preM_nil {s : Qs} {a : IT} (h : s.t.list = []) : preM s a = ⟨a.1.p.t, 0, 0, 0⟩ := by unfold preM; rw [h]; rfl
theorem preM_ne {s : Qs} {a : IT} (h : s.t.list ≠ []) : preM s a = s.m := by
  unfold preM
  rw [decide_eq_false (fun e => h (List.eq_nil_of_length_eq_zero e)), cond_false]
theorem QI.pre {s : Qs} (h : QI s) (a : IT) : IsM (preM s a) (plain s.t.list) := by
  by_cases e : s.t.list = []
  · rw [preM_nil e, e]; exact ⟨rfl, rfl, rfl⟩
  · rw [preM_ne e]; exact (h.cen e).is
theorem updI_spec {f : Int → Option IT} {L L' : List IT} {a : IT} (h : ∀ i x, f i = some x ↔ x ∈ L ∧ x.1.id = i) (hn : f a.1.id = none) (hp : L'.Perm (a :: L)) : ∀ i x, updI f a.1.id (some a) i = some x ↔ x ∈ L' ∧ x.1.id = i := fun i x => by
  unfold updI
  rw [hp.mem_iff, List.mem_cons]
  by_cases e : i = a.1.id
  · rw [decide_eq_true e, cond_true]
    constructor
    · rintro ⟨⟩; exact ⟨.inl rfl, e.symm⟩
    · rintro ⟨rfl | hx, hi⟩
      · rfl
      · rw [(h a.1.id x).2 ⟨hx, by omega⟩] at hn; cases hn
  · rw [decide_eq_false e, cond_false, h i x]
    constructor
    · exact fun ⟨h1, h2⟩ => ⟨.inr h1, h2⟩
    · rintro ⟨rfl | hx, hi⟩
      · exact absurd hi.symm e
      · exact ⟨hx, hi⟩
theorem QI.put {s : Qs} (h : QI s) {a : IT} {lo : Int} (hn : s.f a.1.id = none) (hw : AllW (preM s a).b lo (a.1 :: plain s.t.list)) : QI (putQ s a) ∧ (putQ s a).t.list.Perm (a :: s.t.list) ∧ (putQ s a).c = s.c := by
  have hna : a ∉ s.t.list := fun hm => by rw [(h.f _ a).2 ⟨hm, rfl⟩] at hn; cases hn
  have hid : ∀ x ∈ s.t.list, x.1.id ≠ a.1.id := fun x hx e => by rw [(h.f _ x).2 ⟨hx, e⟩] at hn; cases hn
  have ho : OrdOn IB.ltT (· ∈ a :: s.t.list) := ordT (b := (preM s a).b) (lo := lo) (fun x hx => by
      rcases List.mem_cons.1 hx with rfl | hx
      · exact hw.head
      · exact plain_win hw.tail x hx) hw.1 (fun x hx y hy e => by
      rcases List.mem_cons.1 hx with h1 | h1 <;> rcases List.mem_cons.1 hy with h2 | h2
      · rw [h1, h2]
      · rw [h1] at e; exact absurd e.symm (hid y h2)
      · rw [h2] at e; exact absurd e (hid x h1)
      · exact h.inj x h1 y h2 e)
  have hhas : RB.has IB.ltT a s.t = false := by
    have := RB.has_iff ho (x := a) List.mem_cons_self s.t h.srt (fun z hz => List.mem_cons_of_mem _ hz)
    cases e : RB.has IB.ltT a s.t
    · rfl
    · exact absurd (this.1 e) hna
  have ht : (putQ1 s a).t = RB.blacken (RB.ins IB.ltT s.t a) := by show IB.RB.insert s.t a = _; unfold IB.RB.insert; rw [hhas]; rfl
  have hl : (putQ1 s a).t.list = RB.insL IB.ltT a s.t.list := by rw [ht, RB.list_blacken, RB.list_ins ho List.mem_cons_self s.t h.srt (fun z hz => List.mem_cons_of_mem _ hz)]
  have hp : (putQ1 s a).t.list.Perm (a :: s.t.list) := by rw [hl]; exact RB.insL_perm _ _
  obtain ⟨m', e1, e2, e3⟩ := add_is hw (h.pre a)
  have em : (putQ1 s a).m = m' := by show (addM _ _).getD .zero = _; rw [e1]; rfl
  have hne : (putQ1 s a).t.list ≠ [] := fun e => by rw [e] at hp; exact absurd hp.length_eq (by simp)
  obtain ⟨m2, e4, e5⟩ := centre_is (m := m') (lo := lo) (l := a.1 :: plain s.t.list) (by rw [e2]; exact hw) e3 (by simp)
  have ec : putQ s a = { putQ1 s a with m := m2 } := by
    unfold putQ centreQ
    rw [nowQ_ne hne, em, e4]; rfl
  have hl32 := hw.2.1
  simp only [plain, List.length_cons, List.length_map] at hl32
  refine ⟨?_, by rw [ec]; exact hp, by rw [ec]; rfl⟩
  rw [ec]
  exact {
    good := by show RB.Good (putQ1 s a).t; rw [ht]; exact RB.Good.ins h.good
    srt := by show RB.Srt _ (putQ1 s a).t.list; rw [hl]; exact RB.insL_srt ho List.mem_cons_self (fun z hz => List.mem_cons_of_mem _ hz) h.srt hna
    f := updI_spec h.f hn hp
    n := by
      show (if (s.f a.1.id).isSome then s.n else s.n + 1) = (putQ1 s a).t.list.length
      rw [hn, hp.length_eq, h.n]; rfl
    len := by show (putQ1 s a).t.list.length ≤ 32; rw [hp.length_eq]; exact hl32
    cen := fun _ => e5.perm (plain_perm hp.symm)
    nil := fun e => absurd e hne }
theorem QI.cut {s : Qs} (h : QI s) {a : IT} (ha : a ∈ s.t.list) : QI (cutQ s a) ∧ (cutQ s a).t.list = RB.sans a s.t.list ∧ s.t.list.Perm (a :: RB.sans a s.t.list) ∧ (cutQ s a).c = nowQ s ∧ CutOk a s.t := by
  have hne : s.t.list ≠ [] := fun e => by rw [e] at ha; cases ha
  obtain ⟨t1, d1, d2, d3⟩ := delC_ok h.ord h.good h.srt (fun z hz => hz) ha
  have hhas : RB.has IB.ltT a s.t = true := (RB.has_iff h.ord (x := a) ha s.t h.srt (fun z hz => hz)).2 ha
  have hnd := RB.srt_nodup h.ord (fun z hz => hz) h.srt
  have hp := RB.sans_perm hnd ha
  have ht : (cutQ1 s a).t = RB.blacken t1 := by show cutT a s.t = _; unfold cutT; rw [hhas, d1]; rfl
  have hl : (cutQ1 s a).t.list = RB.sans a s.t.list := by rw [ht, RB.list_blacken, d3]
  have hC := h.cen hne
  obtain ⟨lo, hw⟩ := hC.all
  have hw2 : AllW s.m.b lo (a.1 :: plain (RB.sans a s.t.list)) := hw.perm (plain_perm hp)
  have hm2 : IsM s.m (a.1 :: plain (RB.sans a s.t.list)) := hC.is.perm (plain_perm hp)
  obtain ⟨e1, e2⟩ := take_is hw2 hm2
  have em : (cutQ1 s a).m = lessM s.m a.1.p := by show (takM _ _).getD .zero = _; rw [e1]; rfl
  have hok : CutOk a s.t := fun _ => ⟨by rw [d1]; rfl, by rw [d1]; show t1.list.length + 1 = _; rw [d3, hp.length_eq]; rfl⟩
  have hmem : ∀ x, x ∈ RB.sans a s.t.list ↔ x ∈ s.t.list ∧ x ≠ a := fun x => by unfold RB.sans; rw [List.mem_filter]; simp
  have hsrt : RB.Srt IB.ltT (RB.sans a s.t.list) := List.Pairwise.filter _ h.srt
  have hlen := hp.length_eq
  simp only [List.length_cons] at hlen
  have hfa : s.f a.1.id = some a := (h.f _ a).2 ⟨ha, rfl⟩
  have hf : ∀ i x, updI s.f a.1.id none i = some x ↔ x ∈ RB.sans a s.t.list ∧ x.1.id = i := fun i x => by
    unfold updI
    rw [hmem]
    by_cases e : i = a.1.id
    · rw [decide_eq_true e, cond_true]
      constructor
      · rintro ⟨⟩
      · rintro ⟨⟨k1, k2⟩, k3⟩; exact absurd (h.inj x k1 a ha (by omega)) k2
    · rw [decide_eq_false e, cond_false, h.f i x]
      constructor
      · exact fun ⟨h1, h2⟩ => ⟨⟨h1, fun e' => e (by rw [← h2, e'])⟩, h2⟩
      · exact fun ⟨h1, h2⟩ => ⟨h1.1, h2⟩
  have hn : (if (s.f a.1.id).isSome then s.n - 1 else s.n) = (RB.sans a s.t.list).length := by rw [hfa, h.n]; simp only [Option.isSome_some, if_true]; omega
  have hg : RB.Good (cutQ1 s a).t := by rw [ht]; obtain ⟨k, d2⟩ := d2; exact ⟨RB.blacken_red _, d2.blacken⟩
  by_cases hz : RB.sans a s.t.list = []
  · have e3 : rebM (lessM s.m a.1.p) (nowQ s) = some ⟨nowQ s, 0, 0, 0⟩ := by
      have i1 := e2.a; have i2 := e2.w; have i3 := e2.n
      rw [hz] at i1 i2 i3
      simp only [plain, List.map_nil, sumD, sumW, List.length_nil] at i1 i2 i3
      unfold rebM
      rw [i1, i2, i3]
      simp only [Int.zero_mul, Int.sub_zero]
      exact if_pos ⟨by rw [mright_iff]; left; exact ⟨i3, i2, i1⟩, inW0⟩
    have ec : cutQ s a = { cutQ1 s a with m := ⟨nowQ s, 0, 0, 0⟩ } := by
      unfold cutQ centreQ
      rw [nowQ_nil (hl.trans hz), em, show (cutQ1 s a).c = nowQ s from rfl, e3]; rfl
    refine ⟨?_, by rw [ec]; exact hl, hp, by rw [ec]; rfl, hok⟩
    rw [ec]
    exact { good := hg, srt := by show RB.Srt _ (cutQ1 s a).t.list; rw [hl]; exact hsrt, f := by show ∀ i x, updI s.f a.1.id none i = some x ↔ x ∈ (cutQ1 s a).t.list ∧ _; rw [hl]; exact hf, n := by show (if _ then _ else _) = (cutQ1 s a).t.list.length; rw [hl]; exact hn, len := by show (cutQ1 s a).t.list.length ≤ 32; rw [hl, hz]; simp, cen := fun k => absurd (hl.trans hz) k, nil := fun _ => ⟨rfl, rfl, rfl⟩ }
  · obtain ⟨m2, e4, e5⟩ := centre_is (m := lessM s.m a.1.p) (lo := lo) (l := plain (RB.sans a s.t.list)) hw2.tail e2 (plain_ne hz)
    have ec : cutQ s a = { cutQ1 s a with m := m2 } := by
      unfold cutQ centreQ
      rw [nowQ_ne (by rw [hl]; exact hz), em, e4]; rfl
    refine ⟨?_, by rw [ec]; exact hl, hp, by rw [ec]; rfl, hok⟩
    rw [ec]
    exact { good := hg, srt := by show RB.Srt _ (cutQ1 s a).t.list; rw [hl]; exact hsrt, f := by show ∀ i x, updI s.f a.1.id none i = some x ↔ x ∈ (cutQ1 s a).t.list ∧ _; rw [hl]; exact hf, n := by show (if _ then _ else _) = (cutQ1 s a).t.list.length; rw [hl]; exact hn, len := by show (cutQ1 s a).t.list.length ≤ 32; rw [hl]; have := h.len; omega, cen := fun _ => by show Cen m2 (plain (cutQ1 s a).t.list); rw [hl]; exact e5, nil := fun k => absurd (hl.symm.trans k) hz }
theorem QI.new (c : Int) : QI (newQ c) where
  good := RB.Good.nil
  srt := List.Pairwise.nil
  f i a := by constructor; rintro ⟨⟩; rintro ⟨h, _⟩; cases h
  n := rfl
  len := by simp [newQ, RB.list]
  cen h := absurd rfl h
  nil _ := ⟨rfl, rfl, rfl⟩
end Go.Proofs.YtilajmcellffiaaGreatDoorX

namespace Go.Proofs.YtilajmcellffiaaGreatDoorX
open IB (IT)
theorem minL_spec : ∀ {l : List Int}, l ≠ [] → minL l ∈ l ∧ ∀ x ∈ l, minL l ≤ x
  | [], h => absurd rfl h
  | d :: l, _ => by
    suffices H : ∀ (l : List Int) (d : Int), (l.foldl (fun a b => if b < a then b else a) d = d ∨ l.foldl (fun a b => if b < a then b else a) d ∈ l) ∧ l.foldl (fun a b => if b < a then b else a) d ≤ d ∧ ∀ x ∈ l, l.foldl (fun a b => if b < a then b else a) d ≤ x by
      obtain ⟨h1, h2, h3⟩ := H l d
      refine ⟨List.mem_cons.2 h1, fun x hx => ?_⟩
      rcases List.mem_cons.1 hx with rfl | hx
      · exact h2
      · exact h3 x hx
    intro l
    induction l with
    | nil => intro d; exact ⟨.inl rfl, Int.le_refl _, by simp⟩
    | cons e l ih =>
      intro d
      rw [List.foldl_cons]
      obtain ⟨m, hm, k1, k2, k3⟩ : ∃ m, m = (if e < d then e else d) ∧ m ≤ d ∧ m ≤ e ∧ (m = d ∨ m = e) := ⟨_, rfl, by split <;> omega, by split <;> omega, by split <;> simp⟩
      rw [← hm]
      obtain ⟨h1, h2, h3⟩ := ih m
      refine ⟨?_, by omega, fun x hx => ?_⟩
      · rcases h1 with h1 | h1
        · rcases k3 with k3 | k3
          · exact .inl (h1.trans k3)
          · exact .inr (by rw [h1, k3]; exact List.mem_cons_self)
        · exact .inr (List.mem_cons_of_mem _ h1)
      · rcases List.mem_cons.1 hx with rfl | hx
        · omega
        · exact h3 x hx
theorem maxL_spec : ∀ {l : List Int}, l ≠ [] → maxL l ∈ l ∧ ∀ x ∈ l, x ≤ maxL l
  | [], h => absurd rfl h
  | d :: l, _ => by
    suffices H : ∀ (l : List Int) (d : Int), (l.foldl (fun a b => if b > a then b else a) d = d ∨ l.foldl (fun a b => if b > a then b else a) d ∈ l) ∧ d ≤ l.foldl (fun a b => if b > a then b else a) d ∧ ∀ x ∈ l, x ≤ l.foldl (fun a b => if b > a then b else a) d by
      obtain ⟨h1, h2, h3⟩ := H l d
      refine ⟨List.mem_cons.2 h1, fun x hx => ?_⟩
      rcases List.mem_cons.1 hx with rfl | hx
      · exact h2
      · exact h3 x hx
    intro l
    induction l with
    | nil => intro d; exact ⟨.inl rfl, Int.le_refl _, by simp⟩
    | cons e l ih =>
      intro d
      rw [List.foldl_cons]
      obtain ⟨m, hm, k1, k2, k3⟩ : ∃ m, m = (if e > d then e else d) ∧ m ≥ d ∧ m ≥ e ∧ (m = d ∨ m = e) := ⟨_, rfl, by split <;> omega, by split <;> omega, by split <;> simp⟩
      rw [← hm]
      obtain ⟨h1, h2, h3⟩ := ih m
      refine ⟨?_, by omega, fun x hx => ?_⟩
      · rcases h1 with h1 | h1
        · rcases k3 with k3 | k3
          · exact .inl (h1.trans k3)
          · exact .inr (by rw [h1, k3]; exact List.mem_cons_self)
        · exact .inr (List.mem_cons_of_mem _ h1)
      · rcases List.mem_cons.1 hx with rfl | hx
        · omega
        · exact h3 x hx
theorem minL_mem_eq {l l' : List Int} (h : ∀ x, x ∈ l ↔ x ∈ l') : minL l = minL l' := by
  by_cases e : l = []
  · subst e
    have : l' = [] := List.eq_nil_iff_forall_not_mem.2 fun x hx => by have := (h x).2 hx; cases this
    rw [this]
  · have e' : l' ≠ [] := fun k => e (List.eq_nil_iff_forall_not_mem.2 fun x hx => by have := (h x).1 hx; rw [k] at this; cases this)
    obtain ⟨h1, h2⟩ := minL_spec e
    obtain ⟨k1, k2⟩ := minL_spec e'
    have := h2 _ ((h _).2 k1)
    have := k2 _ ((h _).1 h1)
    omega
theorem maxL_mem_eq {l l' : List Int} (h : ∀ x, x ∈ l ↔ x ∈ l') : maxL l = maxL l' := by
  by_cases e : l = []
  · subst e
    have : l' = [] := List.eq_nil_iff_forall_not_mem.2 fun x hx => by have := (h x).2 hx; cases this
    rw [this]
  · have e' : l' ≠ [] := fun k => e (List.eq_nil_iff_forall_not_mem.2 fun x hx => by have := (h x).1 hx; rw [k] at this; cases this)
    obtain ⟨h1, h2⟩ := maxL_spec e
    obtain ⟨k1, k2⟩ := maxL_spec e'
    have := h2 _ ((h _).2 k1)
    have := k2 _ ((h _).1 h1)
    omega
theorem mem_places {b d : Int} {l : List It} : d ∈ sinces b (places l) ↔ ∃ x ∈ l, d = sn x.p.t b := by
  unfold sinces places
  simp only [List.map_map, List.mem_map, Function.comp]
  exact ⟨fun ⟨x, h, e⟩ => ⟨x, h, e.symm⟩, fun ⟨x, h, e⟩ => ⟨x, h, e.symm⟩⟩
theorem mem_boths {b d : Int} {l : List It} : d ∈ sinces b (bothPs l) ↔ ∃ x ∈ l, d = sn x.p.t b ∨ d = sn x.d.t b := by
  unfold sinces bothPs
  simp only [List.mem_map, List.mem_flatMap, List.mem_cons, List.not_mem_nil, or_false]
  constructor
  · rintro ⟨p, ⟨x, h, rfl | rfl⟩, rfl⟩
    · exact ⟨x, h, .inl rfl⟩
    · exact ⟨x, h, .inr rfl⟩
  · rintro ⟨x, h, rfl | rfl⟩
    · exact ⟨_, ⟨x, h, .inl rfl⟩, rfl⟩
    · exact ⟨_, ⟨x, h, .inr rfl⟩, rfl⟩
theorem spr_mem {b : Int} {l l' : List It} (h : ∀ x, x ∈ l ↔ x ∈ l') : spr b l = spr b l' := by
  unfold spr
  rw [maxL_mem_eq (l := sinces b (bothPs l)) (l' := sinces b (bothPs l')) (fun x => by rw [mem_boths, mem_boths]; simp only [h]), minL_mem_eq (l := sinces b (places l)) (l' := sinces b (places l')) (fun x => by rw [mem_places, mem_places]; simp only [h])]
theorem within_mem {b : Int} {l l' : List It} (h : ∀ x, x ∈ l ↔ x ∈ l') : within b l = within b l' := by unfold within; rw [spr_mem h]
theorem win_of {b : Int} {l : List It} (h1 : ∀ x ∈ l, x.In ∧ x.right = true) (h2 : within b l = true) (h3 : ∃ x ∈ l, sn x.p.t b ≤ 0) (h4 : ∃ x ∈ l, 0 ≤ sn x.p.t b) (hl : l.length ≤ 32) : ∃ lo, AllW b lo l := by
  unfold within at h2
  rw [decide_eq_true_eq] at h2
  obtain ⟨x0, hx0, k0⟩ := h3
  obtain ⟨x1, hx1, k1⟩ := h4
  have e1 : sinces b (places l) ≠ [] := fun e => by have := (mem_places (b := b)).2 ⟨x0, hx0, rfl⟩; rw [e] at this; cases this
  have e2 : sinces b (bothPs l) ≠ [] := fun e => by have := (mem_boths (b := b)).2 ⟨x0, hx0, .inl rfl⟩; rw [e] at this; cases this
  obtain ⟨m1, m2⟩ := minL_spec e1
  obtain ⟨n1, n2⟩ := maxL_spec e2
  have a0 := m2 _ (mem_places.2 ⟨x0, hx0, rfl⟩)
  have a1 := n2 _ (mem_boths.2 ⟨x1, hx1, .inl rfl⟩)
  unfold spr at h2
  have r1 : minL (sinces b (places l)) ≥ -9223372036854775808 := by obtain ⟨x, _, e⟩ := mem_places.1 m1; rw [e]; exact (sn_rng _ _).1
  have r2 : maxL (sinces b (bothPs l)) < 9223372036854775808 := by
    obtain ⟨x, _, e | e⟩ := mem_boths.1 n1
    · rw [e]; exact (sn_rng _ _).2
    · rw [e]; exact (sn_rng _ _).2
  generalize minL (sinces b (places l)) = lo at *
  generalize maxL (sinces b (bothPs l)) = hi at *
  refine ⟨lo, by unfold Mid; omega, hl, fun x hx => ?_⟩
  obtain ⟨i1, i2⟩ := h1 x hx
  have b1 := m2 _ (mem_places.2 ⟨x, hx, rfl⟩)
  have b2 := n2 _ (mem_boths.2 ⟨x, hx, .inl rfl⟩)
  have b3 := n2 _ (mem_boths.2 ⟨x, hx, .inr rfl⟩)
  obtain ⟨_, _, _, _, d1, d2, _⟩ := iright_all i1 i2
  have ed : sn x.d.t b = sn x.p.t b + sn x.d.t x.p.t := by unfold sn at *; omega
  exact ⟨i1, i2, b1, by omega⟩
structure As where
  l : List RT
  c : Int
def its (l : List RT) : List It := l.map fun r => r.1.i
def nowA (A : As) : Int := if A.l = [] then A.c else (meanL (its A.l)).b
def baseA (A : As) (a : It) : Int := if A.l = [] then a.p.t else nowA A
def joinA (A : As) (a : It) : Int :=
  bif !a.right then 2 else bif (findR A.l a.id).isSome then 13 else bif decide (A.l.length = 32) then 7 else bif !within (baseA A a) (its A.l ++ [a]) then 8 else 0
def entE (A : As) (r : RT) : Int := layE r.1 (joinA A r.1.i)
def entA (A : As) (r : RT) : As := if entE A r = 0 then ⟨putR r A.l, A.c⟩ else A
def extA (A : As) (id : Int) : As := if (findR A.l id).isSome then ⟨delR id A.l, nowA A⟩ else A
structure Rep (s : Ss) (A : As) : Prop where
  q : QI s.q
  l : s.l = A.l
  p : s.q.t.list.Perm (A.l.map itR)
  c : s.q.c = A.c
  r : ∀ r ∈ A.l, r.1.right = true
  o : OrdR A.l
theorem its_itR (l : List RT) : plain (l.map itR) = its l := by unfold plain its; rw [List.map_map]; rfl
theorem Rep.len {s : Ss} {A : As} (h : Rep s A) : s.q.t.list.length = A.l.length := by rw [h.p.length_eq, List.length_map]
theorem Rep.le {s : Ss} {A : As} (h : Rep s A) : A.l.length ≤ 32 := by rw [← h.len]; exact h.q.len
theorem Rep.nil {s : Ss} {A : As} (h : Rep s A) : s.q.t.list = [] ↔ A.l = [] := by
  rw [← List.length_eq_zero_iff, h.len, List.length_eq_zero_iff]
theorem Rep.pits {s : Ss} {A : As} (h : Rep s A) : (plain s.q.t.list).Perm (its A.l) := by rw [← its_itR]; exact plain_perm h.p
theorem its_ne {l : List RT} (h : l ≠ []) : its l ≠ [] := fun e => h (List.map_eq_nil_iff.1 e)
theorem Rep.cen {s : Ss} {A : As} (h : Rep s A) (e : A.l ≠ []) : Cen s.q.m (its A.l) := (h.q.cen (fun k => e (h.nil.1 k))).perm h.pits
theorem Rep.mean {s : Ss} {A : As} (h : Rep s A) (e : A.l ≠ []) : s.q.m = meanL (its A.l) := (h.cen e).eq (its_ne e)
theorem Rep.now {s : Ss} {A : As} (h : Rep s A) : nowQ s.q = nowA A := by
  unfold nowA
  by_cases e : A.l = []
  · rw [nowQ_nil (h.nil.2 e), h.c, if_pos e]
  · rw [h.q.now (fun k => e (h.nil.1 k)), h.mean e, if_neg e]
theorem Rep.f {s : Ss} {A : As} (h : Rep s A) (i : Int) : s.q.f i = (findR A.l i).map itR := by
  cases e : findR A.l i with
  | some a =>
    obtain ⟨h1, h2⟩ := findR_some e
    exact (h.q.f i (itR a)).2 ⟨h.p.mem_iff.2 (List.mem_map_of_mem h1), h2⟩
  | none =>
    cases e' : s.q.f i with
    | none => rfl
    | some b =>
      obtain ⟨h1, h2⟩ := (h.q.f i b).1 e'
      obtain ⟨r, h3, rfl⟩ := List.mem_map.1 (h.p.mem_iff.1 h1)
      have := findR_mem h3
      rw [show idR r = i from h2, e] at this; cases this
theorem Rep.fs {s : Ss} {A : As} (h : Rep s A) (i : Int) : (s.q.f i).isSome = (findR A.l i).isSome := by rw [h.f]; cases findR A.l i <;> rfl
theorem Rep.join {s : Ss} {A : As} (h : Rep s A) (a : IT) : joinE s.q a = joinA A a.1 := by
  unfold joinE joinA
  rw [h.fs, h.len]
  have e1 : baseQ s.q a = baseA A a.1 := by
    unfold baseQ baseA
    rw [h.len, h.now]
    by_cases e : A.l = []
    · rw [if_pos e, e]; rfl
    · rw [if_neg e, decide_eq_false (fun k => e (List.eq_nil_of_length_eq_zero k)), cond_false]
  rw [e1, within_mem (l := plain (s.q.t.list ++ [a])) (l' := its A.l ++ [a.1]) (fun x => by rw [show plain (s.q.t.list ++ [a]) = plain s.q.t.list ++ [a.1] from List.map_append .., List.mem_append, List.mem_append, h.pits.mem_iff])]
theorem Rep.base {s : Ss} {A : As} (h : Rep s A) (a : IT) : (preM s.q a).b = baseA A a.1 := by
  unfold baseA
  by_cases e : A.l = []
  · rw [if_pos e, preM_nil (h.nil.2 e)]
  · rw [if_neg e, preM_ne (fun k => e (h.nil.1 k)), ← h.now, h.q.now (fun k => e (h.nil.1 k))]
theorem rright_i {r : Rq} (h : r.right = true) : r.i.right = true := by
  unfold Rq.right at h
  simp only [Bool.and_eq_true] at h
  exact h.1.1.1
theorem low_mid {m : Mn} {l : List It} (h : Cen m l) (hl : l ≠ []) : (∃ x ∈ l, sn x.p.t m.b ≤ 0) ∧ ∃ x ∈ l, 0 ≤ sn x.p.t m.b := by
  obtain ⟨lo, k⟩ := h.all
  have hw := (k.mid hl).1
  have a0 := h.a0
  have a1 := h.a1
  rw [h.is.a] at a0 a1
  rw [h.is.w] at a1
  constructor
  · refine Classical.byContradiction fun hn => ?_
    have := (sum_rng (b := m.b) (lo := 1) (hi := lo + 4611686018427387904) (l := l) fun x hx => by
      obtain ⟨r1, r2, r3, r4⟩ := (k.2.2 x hx).rng k.1
      exact ⟨r1, r2, by have := Int.not_le.1 (fun e => hn ⟨x, hx, e⟩); omega, r4⟩).1
    omega
  · refine Classical.byContradiction fun hn => ?_
    have := (sum_rng (b := m.b) (lo := lo) (hi := -1) (l := l) fun x hx => by
      obtain ⟨r1, r2, r3, r4⟩ := (k.2.2 x hx).rng k.1
      exact ⟨r1, r2, r3, by have := Int.not_le.1 (fun e => hn ⟨x, hx, e⟩); omega⟩).2.1
    have := List.length_pos_iff.2 hl
    omega
theorem Rep.win {s : Ss} {A : As} (h : Rep s A) {a : IT} (hr : a.1.right = true) (hn : A.l.length ≠ 32) (hw : within (baseA A a.1) (its A.l ++ [a.1]) = true) : ∃ lo, AllW (preM s.q a).b lo (a.1 :: plain s.q.t.list) := by
  have hle := h.le
  rw [h.base]
  have hall : ∀ x ∈ its A.l ++ [a.1], x.In ∧ x.right = true := fun x hx => by
    rcases List.mem_append.1 hx with hx | hx
    · obtain ⟨r, hr', rfl⟩ := List.mem_map.1 hx
      exact ⟨r.2.1, rright_i (h.r r hr')⟩
    · obtain rfl := List.mem_singleton.1 hx; exact ⟨a.2, hr⟩
  have hlen : (its A.l ++ [a.1]).length ≤ 32 := by simp [its]; omega
  have hx : (∃ x ∈ its A.l ++ [a.1], sn x.p.t (baseA A a.1) ≤ 0) ∧ ∃ x ∈ its A.l ++ [a.1], 0 ≤ sn x.p.t (baseA A a.1) := by
    by_cases e : A.l = []
    · have : baseA A a.1 = a.1.p.t := if_pos e
      rw [this]
      exact ⟨⟨a.1, by simp, by rw [sn_self]; omega⟩, ⟨a.1, by simp, by rw [sn_self]; omega⟩⟩
    · obtain ⟨⟨x, k1, k2⟩, ⟨y, k3, k4⟩⟩ := low_mid (h.cen e) (its_ne e)
      have : s.q.m.b = baseA A a.1 := by rw [← h.base a, preM_ne (fun k => e (h.nil.1 k))]
      rw [this] at k2 k4
      exact ⟨⟨x, by simp [k1], k2⟩, ⟨y, by simp [k3], k4⟩⟩
  obtain ⟨lo, k⟩ := win_of hall hw hx.1 hx.2 hlen
  exact ⟨lo, k.perm (List.perm_append_comm.trans (h.pits.symm.cons _))⟩
theorem put_perm {r : RT} : ∀ {l : List RT}, findR l (idR r) = none → (putR r l).Perm (r :: l)
  | [], _ => .refl _
  | a :: l, h => by
    rw [findR_cons] at h
    unfold putR
    split
    · exact .refl _
    · split at h
      · cases h
      · split
        · rename_i k1 k2 k3; exact absurd k3.symm k2
        · exact ((put_perm h).cons a).trans (.swap _ _ _)
theorem Rep.enter {s : Ss} {A : As} (h : Rep s A) (r : RT) : enterE s r = entE A r ∧ Rep (enterS s r) (entA A r) := by
  have he : enterE s r = entE A r := by unfold enterE entE; rw [h.join]; rfl
  refine ⟨he, ?_⟩
  unfold entA
  by_cases e0 : entE A r = 0
  · rw [if_pos e0]
    have hr : r.1.right = true := by
      unfold entE layE at e0
      cases k : r.1.right
      · rw [k] at e0; cases e0
      · rfl
    have hj : joinA A r.1.i = 0 := by unfold entE layE at e0; rw [hr] at e0; exact e0
    have hjq : joinE s.q (itR r) = 0 := by rw [h.join]; exact hj
    unfold joinA at hj
    cases k1 : r.1.i.right with
    | false => rw [k1] at hj; cases hj
    | true =>
    cases k2 : (findR A.l r.1.i.id) with
    | some x => rw [k1, k2] at hj; cases hj
    | none =>
    by_cases k3 : A.l.length = 32
    · rw [k1, k2, decide_eq_true k3] at hj; cases hj
    · cases k4 : within (baseA A r.1.i) (its A.l ++ [r.1.i]) with
      | false => rw [k1, k2, decide_eq_false k3, k4] at hj; cases hj
      | true =>
        obtain ⟨lo, hw⟩ := h.win (a := itR r) k1 k3 k4
        obtain ⟨p1, p2, p3⟩ := h.q.put (a := itR r) (by rw [h.f]; show Option.map itR (findR A.l r.1.i.id) = none; rw [k2]; rfl) hw
        have hE : enterS s r = ⟨putQ s.q (itR r), putR r s.l⟩ := by
          unfold enterS layS joinQ; rw [hr, hjq]; rfl
        rw [hE]
        refine ⟨p1, by rw [h.l], ?_, p3.trans h.c, fun x hx => ?_, ord_put h.o⟩
        · refine p2.trans ?_
          have := (put_perm (r := r) (l := A.l) k2).map itR
          exact ((h.p.cons _).trans this.symm)
        · rcases mem_put hx with rfl | hx
          · exact hr
          · exact h.r x hx
  · rw [if_neg e0]
    have : enterS s r = s := by
      unfold enterS layS
      cases k : r.1.right
      · rfl
      · have : joinE s.q (itR r) ≠ 0 := fun e => e0 (by rw [← he]; unfold enterE layE; rw [k]; exact e)
        unfold joinQ
        rw [decide_eq_false this]; rfl
    rw [this]; exact h
theorem its_sans {l : List RT} {a : RT} (ho : OrdR l) (ha : a ∈ l) : (delR (idR a) l).map itR = RB.sans (itR a) (l.map itR) := by
  unfold delR RB.sans
  rw [List.filter_map]
  congr 1
  refine List.filter_congr fun x hx => ?_
  simp only [Function.comp]
  by_cases e : idR x = idR a
  · have h1 := findR_at ho hx
    have h2 := findR_at ho ha
    rw [e, h2] at h1
    obtain rfl := Option.some.inj h1
    simp
  · have : itR x ≠ itR a := fun k => e (by unfold idR; exact congrArg (fun z : IT => z.1.id) k)
    simp [e, this]
theorem Rep.exit {s : Ss} {A : As} (h : Rep s A) {id : Int} {a : RT} (hf : findR A.l id = some a) : s.q.f id = some (itR a) ∧ CutOk (itR a) s.q.t ∧ Rep (exitS s id) (extA A id) := by
  obtain ⟨h1, h2⟩ := findR_some hf
  have hfq : s.q.f id = some (itR a) := by rw [h.f, hf]; rfl
  have hm : itR a ∈ s.q.t.list := h.p.mem_iff.2 (List.mem_map_of_mem h1)
  obtain ⟨p1, p2, p3, p4, p5⟩ := h.q.cut hm
  have hE : exitS s id = ⟨cutQ s.q (itR a), delR id s.l⟩ := by unfold exitS leaveQ; rw [hfq]
  refine ⟨hfq, p5, ?_⟩
  unfold extA
  rw [hE, hf, h.l]
  refine ⟨p1, rfl, ?_, ?_, fun x hx => h.r x (List.mem_filter.1 hx).1, ord_del h.o⟩
  · show (cutQ s.q (itR a)).t.list.Perm ((delR id A.l).map itR)
    rw [p2, ← h2, its_sans h.o h1]
    unfold RB.sans
    exact h.p.filter _
  · show (cutQ s.q (itR a)).c = nowA A
    rw [p4, h.now]
theorem Rep.new (c : Int) : Rep (newS c) ⟨[], c⟩ := ⟨QI.new c, rfl, .refl _, rfl, by simp, List.Pairwise.nil⟩
end Go.Proofs.YtilajmcellffiaaGreatDoorX

namespace Go.Proofs.YtilajmcellffiaaGreatDoorX
open Go Go.RowKit
open IB (IT ITsAt flatT)
attribute [local irreducible] XS XC XA thenE blockE retE loopE loopS cutB cutN doneE SE
end Go.Proofs.YtilajmcellffiaaGreatDoorX

namespace Go.Proofs.YtilajmcellffiaaGreatDoorX
open Go Go.RowKit
open IB (IT ITsAt flatT)
attribute [local irreducible] XS XC XA thenE blockE retE loopE loopS cutB cutN doneE SE
end Go.Proofs.YtilajmcellffiaaGreatDoorX

namespace Go.Proofs.YtilajmcellffiaaGreatDoorX
open Go Go.RowKit
open IB (IT ITsAt flatT)
attribute [local irreducible] XS XC XA thenE blockE retE loopE loopS cutB cutN doneE SE
abbrev RsAt (w : World) (v : Value) (l : List RT) : Prop := LsAt w 31 10 v (l.map fun a => a.1.cells)
theorem rs_of {w : World} {v : Value} {l : List RT} {G : List Nat} (h : SlV w 31 10 v l.length (flatR l) G) : RsAt w v l :=
  h.ls rfl (by simp) (fun x hx => by obtain ⟨a, _, rfl⟩ := List.mem_map.1 hx; rfl)
def runN (l : List RT) : Nat := (l.filter fun a => !a.1.asleep).length
theorem runN_app (a b : List RT) : runN (a ++ b) = runN a + runN b := by simp [runN, List.filter_append]
theorem runN_le (l : List RT) : runN l ≤ l.length := List.length_filter_le _ _
set_option maxHeartbeats 2000000 in
theorem runnable_ret (sb : Nat) (s : Ss) (F : List Nat) (w0 : World) (h : SAt w0 sb s F) (hn : s.l.length ≤ 1000000) :
    Ret Tryz.prog 20 #[.pointer (some ⟨sb, 0, none⟩)] w0 fun v w' => v = .int .i64 (runN s.l : Nat) ∧ Only [] w0 w' := by
  have hs := St.nil w0
  refine ret_of_xc Tryz.func20 (by kernel_rfl) rfl Tryz.ntmps20 rfl rfl rfl ?_
  repeat' (first|refine vs (k:=?_)|refine qRg ?_|refine Nx.h ?_|fail)
  have ho := hs.only0 rfl
  (with_reducible apply xs_call); exact rfl; exact rfl; exact reqs_ret sb s F _ (h.only ho) hn
  rintro v2 w2 ⟨⟨G, hG, _⟩, ho2⟩
  obtain ⟨ad, cap, rfl, hD⟩ := rs_of hG
  rw [List.length_map]
  rw [List.length_map] at hD
  have hoA := ho.trans ho2
  clear hs
  have hs := St.nil w2
  repeat' (first|refine vs (k:=?_)|refine Nx.h ?_|fail)
  refine xc_cutB (fun (_ : Unit) => [(3, .int .i64 (runN s.l : Nat))]) (fun _ w => Only [] w2 w) ?_ ?_
  · refine xc_loopS (fun (x : Nat) => [(3, .int .i64 (runN (s.l.take x) : Nat)), (7, .slice ad s.l.length cap), (8, .int .i64 (s.l.length : Nat)), (9, .int .i64 (x : Nat))])
      (fun x w => x ≤ s.l.length ∧ Only [] w2 w) (fun x => s.l.length - x) 0 (by (repeat (first | exact agree_nil | (apply agree_cons; exact rfl)))) ⟨Nat.zero_le _, hs.only0 rfl⟩ fun i env wl ⟨hi, ho0⟩ => ?_
    clear hs
    have hs := St.nil wl
    repeat' (first|refine vs (k:=?_)|refine qRg ?_|refine Nx.h ?_|(refine xc_if rfl (fun hc=>?_) (fun hc=>?_))|fail)
    · have hlt : i < s.l.length := by omega
      obtain ⟨b, off, cs, fz, rfl, _, hb, hcs⟩ := hD (fun h => by rw [List.map_eq_nil_iff.1 h] at hlt; cases hlt)
      have hpk := hcs i (Rq.cells s.l[i].1) (by rw [List.getElem?_map, List.getElem?_eq_getElem hlt]; rfl)
      have ei := nx64 (m := s.l.length) hlt (by omega)
      have et : runN (s.l.take (i + 1)) = runN (s.l.take i) + bif s.l[i].1.asleep then 0 else 1 := by rw [take_next hlt, runN_app]; congr 1; unfold runN; rw [List.filter_cons, List.filter_nil]; cases s.l[i].1.asleep <;> rfl
      have hle := runN_le (s.l.take i)
      rw [List.length_take] at hle
      have ec := nx64 (i := runN (s.l.take i)) (m := s.l.length + 1) (by omega) (by omega)
      generalize s.l[i] = q at *
      refine ix (h0 := (by omega)) (h1 := (by omega)) (k := ?_)
      refine lhK (ho0.block hb (by simp)) hpk (k := ?_)
      refine al hs (k := ?_); intro b8 w8 hz hs
      repeat' (first|refine vs (k:=?_)|(refine stA hs (k:=?_);intro w hs)|refine qRg ?_|refine Nx.h ?_|(refine xc_cond rfl (fun hc=>?_) (fun hc=>?_))|fail)
      · have eq : q.1.asleep = false := by simpa using ‹(!q.1.asleep) = true›
        rw [eq] at et
        refine loopS_next (i + 1) (by show s.l.length - (i + 1) < s.l.length - i; omega) ?_ ⟨by show i + 1 ≤ _; omega, ho0.trans (hs.only0 rfl)⟩
        rw [et]
        (repeat (first | exact agree_nil | (apply agree_cons; first | exact rfl | exact congrArg (Value.int .i64) ei | exact congrArg (Value.int .i64) ec)))
      · have eq : q.1.asleep = true := by simpa using ‹(!q.1.asleep) = false›
        rw [eq] at et
        refine loopS_next (i + 1) (by show s.l.length - (i + 1) < s.l.length - i; omega) ?_ ⟨by show i + 1 ≤ _; omega, ho0.trans (hs.only0 rfl)⟩
        rw [et]
        (repeat (first | exact agree_nil | (apply agree_cons; first | exact rfl | exact congrArg (Value.int .i64) ei)))
    · have e : i = s.l.length := by omega
      subst e
      rw [List.take_length]
      exact cutB_exit () (by (repeat (first | exact agree_nil | (apply agree_cons; exact rfl)))) ho0
  · rintro _ env w ho0
    clear hs
    have hs := St.nil w
    repeat' (first|refine vs (k:=?_)|refine qRg ?_|refine Nx.h ?_|fail)
    first | refine rt (hq := ?_) | refine rt' (hq := ?_)
    exact ⟨rfl, (hoA.trans ho0).trans (hs.only0 rfl)⟩
end Go.Proofs.YtilajmcellffiaaGreatDoorX

namespace Go.Proofs.YtilajmcellffiaaGreatDoorX
open Go Go.RowKit
open IB (IT ITsAt flatT)
attribute [local irreducible] XS XC XA thenE blockE retE loopE loopS cutB cutN doneE SE
structure Gn where
  id : Int
  lag : Int
  r : Rq
def goes (q : Qs) (a : RT) : Bool := a.1.asleep && decide (owedQ q (idR a) ≥ 0)
end Go.Proofs.YtilajmcellffiaaGreatDoorX

namespace Go.Proofs.YtilajmcellffiaaGreatDoorX
open Go Go.RowKit
open IB (IT ITsAt flatT)
attribute [local irreducible] XS XC XA thenE blockE retE loopE loopS cutB cutN doneE SE
end Go.Proofs.YtilajmcellffiaaGreatDoorX

namespace Go.Proofs.YtilajmcellffiaaGreatDoorX
open Go Go.RowKit
open IB (IT ITsAt flatT)
attribute [local irreducible] XS XC XA thenE blockE retE loopE loopS cutB cutN doneE SE
end Go.Proofs.YtilajmcellffiaaGreatDoorX

namespace Go.Proofs.YtilajmcellffiaaGreatDoorX
open Go Go.RowKit
open IB (IT ITsAt flatT)
attribute [local irreducible] XS XC XA thenE blockE retE loopE loopS cutB cutN doneE SE
end Go.Proofs.YtilajmcellffiaaGreatDoorX

namespace Go.Proofs.YtilajmcellffiaaGreatDoorX
open IB (IT)
theorem put_perm2 {r : RT} : ∀ {l : List RT}, OrdR l → (putR r l).Perm (r :: delR (idR r) l)
  | [], _ => .refl _
  | a :: l, h => by
    have hd := h.head
    have hlt : ∀ {b : RT}, idR r ≤ idR a → b ∈ l → decide (idR b ≠ idR r) = true := fun h1 hb => by have := hd _ hb; simp; omega
    have ih := put_perm2 (r := r) h.tail
    unfold putR delR
    rw [List.filter_cons]
    split
    · rename_i h1
      rw [if_pos (by simp; omega), List.filter_eq_self.2 (fun b hb => hlt (by omega) hb)]
    · split
      · rename_i h1 h2
        rw [if_neg (by simp; omega), List.filter_eq_self.2 (fun b hb => hlt (by omega) hb)]
      · rename_i h1 h2
        rw [if_pos (by simp; omega)]
        exact (ih.cons a).trans (.swap _ _ _)
def rouA (A : As) (id : Int) (b : Bool) : As := match findR A.l id with | some a => ⟨putR (wakeR a b) A.l, A.c⟩ | none => A
theorem del_perm {l : List RT} {a : RT} {i : Int} (ho : OrdR l) (hf : findR l i = some a) : l.Perm (a :: delR i l) := by
  obtain ⟨h1, h2⟩ := findR_some hf
  have : l.Nodup := (List.Pairwise.imp (fun h e => by subst e; omega) (List.pairwise_map.1 ho))
  clear hf
  induction l with
  | nil => cases h1
  | cons b l ih =>
    have hd := ho.head
    unfold delR
    rw [List.filter_cons]
    rcases List.mem_cons.1 h1 with rfl | h1
    · rw [if_neg (by simp [h2]), List.filter_eq_self.2 (fun x hx => by have := hd x hx; simp; omega)]
    · have := hd a h1
      rw [if_pos (by simp; omega)]
      exact ((ih ho.tail h1 (List.nodup_cons.1 ‹(b :: l).Nodup›).2).cons b).trans (.swap _ _ _)
theorem Rep.rouse {s : Ss} {A : As} (h : Rep s A) (id : Int) (b : Bool) : Rep (rouseS s id b) (rouA A id b) := by
  unfold rouseS rouA
  rw [h.l]
  cases e : findR A.l id with
  | none => exact h
  | some a =>
    obtain ⟨h1, h2⟩ := findR_some e
    refine ⟨h.q, rfl, ?_, h.c, fun x hx => ?_, ord_put h.o⟩
    · refine h.p.trans (((del_perm h.o e).map itR).trans ?_)
      have hi : idR (wakeR a b) = id := h2
      have := (put_perm2 (r := wakeR a b) h.o).map itR
      rw [hi] at this
      exact this.symm
    · rcases mem_put hx with rfl | hx
      · exact h.r a h1
      · exact h.r x hx
end Go.Proofs.YtilajmcellffiaaGreatDoorX

namespace Go.Proofs.YtilajmcellffiaaGreatDoorX
open Go Go.RowKit
open IB (IT ITsAt flatT)
attribute [local irreducible] XS XC XA thenE blockE retE loopE loopS cutB cutN doneE SE
end Go.Proofs.YtilajmcellffiaaGreatDoorX

namespace Go.Proofs.YtilajmcellffiaaGreatDoorX
open IB (IT)
theorem over_ok {m : Mn} {l : List It} (h : Cen m l) {x : It} (hx : x ∈ l) : ovM m x.p = some (ovL m x.p) ∧ InW (ovL m x.p) := by
  obtain ⟨lo, k⟩ := h.all
  have hw := k.2.2 x hx
  have hr := k.right h.is
  obtain ⟨r1, _, _, _, _, _, ⟨w1, w2, w3, w4⟩, _⟩ := iright_all hw.isin hw.right
  have hn : m.n ≠ 0 := by rw [h.is.n]; have := List.length_pos_of_mem hx; omega
  have h8 := had_rng hw.isin.1 hr r1
  have hm := mright_iff.1 hr
  have a0 := h.a0
  have a1 := h.a1
  have h9 := mul_rng (w := m.a) (s := x.p.w) (W := 33554432) (S := 1048576) (by omega) (by omega) (by omega) (by omega)
  have h10 := mul_rng (w := m.w) (s := dist x.p m.b) (W := 33554432) (S := 9671406556917033397649408 + 1048576) (by omega) (by omega) h8.2.1 h8.2.2
  have e := Int.mul_comm (dist x.p m.b) m.w
  have i1 : InW (m.a * x.p.w) := by unfold InW; omega
  have i2 : InW (ovL m x.p) := by unfold ovL InW; rw [e]; omega
  unfold ovM
  exact ⟨if_pos ⟨hr, hn, r1, i1, i2⟩, i2⟩
def mA (A : As) : Mn := meanL (its A.l)
def ovA (A : As) (a : RT) : Int := ovL (mA A) a.1.i.p
def lagR (A : As) (a : RT) : Int := ovA A a / (mA A).w
def owedA (A : As) (id : Int) : Int := match findR A.l id with | some a => cmpI (ovA A a) 0 | none => 0
def lagA (A : As) (id : Int) : Int := match findR A.l id with | some a => lagR A a | none => 0
theorem Rep.over {s : Ss} {A : As} (h : Rep s A) {a : RT} (ha : a ∈ A.l) : ovM s.q.m a.1.i.p = some (ovA A a) ∧ InW (ovA A a) ∧ s.q.m = mA A := by
  have hne : A.l ≠ [] := List.ne_nil_of_mem ha
  have e := h.mean hne
  have := over_ok (h.cen hne) (x := a.1.i) (List.mem_map_of_mem ha)
  rw [e] at this
  exact ⟨by rw [e]; exact this.1, this.2, e⟩
theorem Rep.lag {s : Ss} {A : As} (h : Rep s A) (id : Int) : lagQ s.q id = lagA A id := by
  unfold lagQ lagA
  rw [h.f]
  cases e : findR A.l id with
  | none => rfl
  | some a =>
    have := h.over (findR_some e).1
    show ((rdM s.q.m a.1.i.p).getD 0) = _
    unfold rdM lagR
    rw [this.1, this.2.2]; rfl
def goesA (A : As) (a : RT) : Bool := a.1.asleep && decide (0 ≤ ovA A a)
def gnA (A : As) (a : RT) : Gn := ⟨idR a, lagR A a, a.1⟩
def flushN : Nat → As → List Gn × As
  | 0, A => ([], A)
  | n + 1, A => match A.l.find? (goesA A) with
    | none => ([], A)
    | some a => (gnA A a :: (flushN n (extA A (idR a))).1, (flushN n (extA A (idR a))).2)
def MinOf (X : List IT) : Option IT → Prop
  | none => X = []
  | some m => m ∈ X ∧ ∀ y ∈ X, due y.1 m.1 = false
theorem snr_min {S : IT → Prop} (o : OrdOn (fun x y : IT => due x.1 y.1) S) {X Y : List IT} (hX : ∀ z ∈ X, S z) (hY : ∀ z ∈ Y, S z) {x y : IT} (h1 : MinOf X (some x)) (h2 : MinOf Y (some y)) {Z : List IT} (hZ : ∀ z, z ∈ Z ↔ z ∈ X ∨ z ∈ Y) : MinOf Z (some (IB.snr x y)) := by
  obtain ⟨x1, x2⟩ := h1
  obtain ⟨y1, y2⟩ := h2
  have sx := hX x x1
  have sy := hY y y1
  unfold IB.snr
  cases e : due y.1 x.1
  · refine ⟨(hZ _).2 (.inl x1), fun z hz => ?_⟩
    rcases (hZ z).1 hz with hz | hz
    · exact x2 z hz
    · cases k : due z.1 x.1
      · exact k
      · exfalso
        cases k2 : due y.1 z.1
        · have := o.tri z y (hY z hz) sy (y2 z hz) k2
          subst this; rw [e] at k; cases k
        · have := o.tr y z x sy (hY z hz) sx k2 k
          rw [show due y.1 x.1 = true from this] at e; cases e
  · refine ⟨(hZ _).2 (.inr y1), fun z hz => ?_⟩
    rcases (hZ z).1 hz with hz | hz
    · cases k : due z.1 y.1
      · exact k
      · have := o.tr z y x (hX z hz) sy sx k e
        exact absurd (x2 z hz) (by rw [show due z.1 x.1 = true from this]; simp)
    · exact y2 z hz
theorem all_min {S : IT → Prop} (o : OrdOn (fun x y : IT => due x.1 y.1) S) : ∀ {t : RB IT}, (∀ z ∈ t.list, S z) → MinOf t.list (IB.all? t)
  | .nil, _ => rfl
  | .node l x r c, h => by
    have hl := all_min o (t := l) fun z hz => h z (by simp [RB.list, hz])
    have hr := all_min o (t := r) fun z hz => h z (by simp [RB.list, hz])
    have hx : S x := h x (by simp [RB.list])
    have h0 : MinOf [x] (some x) := ⟨by simp, fun y hy => by obtain rfl := List.mem_singleton.1 hy; exact o.irr y hx⟩
    have hL : ∀ z ∈ l.list, S z := fun z hz => h z (by simp [RB.list, hz])
    have hR : ∀ z ∈ r.list, S z := fun z hz => h z (by simp [RB.list, hz])
    have h1x : ∀ z ∈ [x], S z := fun z hz => by obtain rfl := List.mem_singleton.1 hz; exact hx
    have h1 : MinOf (l.list ++ [x]) (some (match IB.all? l with | none => x | some a => IB.snr a x)) := by
      cases e : IB.all? l with
      | none => rw [e] at hl; rw [show l.list = [] from hl]; exact h0
      | some a => rw [e] at hl; exact snr_min o hL h1x hl h0 (fun z => by simp)
    have h1' : ∀ z ∈ l.list ++ [x], S z := fun z hz => by
      rcases List.mem_append.1 hz with hz | hz
      · exact hL z hz
      · exact h1x z hz
    show MinOf (l.list ++ x :: r.list) (some _)
    cases e : IB.all? r with
    | none => rw [e] at hr; rw [show r.list = [] from hr]; exact h1
    | some b => rw [e] at hr; exact snr_min o h1' hR h1 hr (fun z => by simp [or_assoc])
theorem fold_min {S : IT → Prop} (o : OrdOn (fun x y : IT => due x.1 y.1) S) {q : IT → Bool} : ∀ {t : RB IT} {acc : Option IT} {X Z : List IT}, (∀ z ∈ t.list, S z) → (∀ z ∈ X, S z) → MinOf X acc → t.list.Pairwise (fun a b => q b = true → q a = true) → (∀ z, z ∈ Z ↔ z ∈ X ∨ (z ∈ t.list ∧ q z = true)) → MinOf Z (IB.foldT q t acc)
  | .nil, acc, X, Z, _, _, h, _, hZ => by
    have : ∀ z, z ∈ Z ↔ z ∈ X := fun z => by rw [hZ]; simp [RB.list]
    unfold IB.foldT
    cases acc with
    | none => exact List.eq_nil_iff_forall_not_mem.2 fun z hz => by have := (this z).1 hz; rw [show X = [] from h] at this; cases this
    | some m => exact ⟨(this m).2 h.1, fun y hy => h.2 y ((this y).1 hy)⟩
  | .node l x r c, acc, X, Z, hS, hX, h, hp, hZ => by
    have hx : S x := hS x (by simp [RB.list])
    have hL : ∀ z ∈ l.list, S z := fun z hz => hS z (by simp [RB.list, hz])
    have hR : ∀ z ∈ r.list, S z := fun z hz => hS z (by simp [RB.list, hz])
    obtain ⟨p1, p2, p3⟩ := List.pairwise_append.1 (show (l.list ++ x :: r.list).Pairwise _ from hp)
    obtain ⟨p4, p5⟩ := List.pairwise_cons.1 p2
    have h1x : ∀ z ∈ [x], S z := fun z hz => by obtain rfl := List.mem_singleton.1 hz; exact hx
    have h0 : MinOf [x] (some x) := ⟨by simp, fun y hy => by obtain rfl := List.mem_singleton.1 hy; exact o.irr y hx⟩
    unfold IB.foldT
    cases e : q x
    · refine fold_min o hL hX h p1 fun z => ?_
      rw [hZ]
      constructor
      · rintro (h1 | ⟨h1, h2⟩)
        · exact .inl h1
        · rcases List.mem_append.1 (show z ∈ l.list ++ x :: r.list from h1) with h1 | h1
          · exact .inr ⟨h1, h2⟩
          · rcases List.mem_cons.1 h1 with rfl | h1
            · rw [e] at h2; cases h2
            · have := p4 z h1 h2; rw [e] at this; cases this
      · rintro (h1 | ⟨h1, h2⟩)
        · exact .inl h1
        · exact .inr ⟨by show z ∈ l.list ++ x :: r.list; simp [h1], h2⟩
    · have hql : ∀ z ∈ l.list, q z = true := fun z hz => p3 z hz x List.mem_cons_self e
      have a1 : MinOf (X ++ l.list) (IB.allO acc l) := by
        have hl := all_min o hL
        unfold IB.allO
        cases e1 : IB.all? l with
        | none => rw [e1] at hl; rw [show l.list = [] from hl, List.append_nil]; exact h
        | some a =>
          rw [e1] at hl
          unfold IB.addO
          cases acc with
          | none => rw [show X = [] from h]; exact hl
          | some m => exact snr_min o hX hL h hl (fun z => by simp)
      have hXL : ∀ z ∈ X ++ l.list, S z := fun z hz => by
        rcases List.mem_append.1 hz with hz | hz
        · exact hX z hz
        · exact hL z hz
      have a2 : MinOf (X ++ l.list ++ [x]) (IB.addO (IB.allO acc l) x) := by
        unfold IB.addO
        cases e1 : IB.allO acc l with
        | none => rw [e1] at a1; rw [show X ++ l.list = [] from a1]; exact h0
        | some m => rw [e1] at a1; exact snr_min o hXL h1x a1 h0 (fun z => by simp [or_assoc])
      refine fold_min (X := X ++ l.list ++ [x]) o hR (fun z hz => ?_) a2 p5 fun z => ?_
      · rcases List.mem_append.1 hz with hz | hz
        · exact hXL z hz
        · exact h1x z hz
      · rw [hZ]
        constructor
        · rintro (h1 | ⟨h1, h2⟩)
          · exact .inl (by simp [h1])
          · rcases List.mem_append.1 (show z ∈ l.list ++ x :: r.list from h1) with h1 | h1
            · exact .inl (by simp [h1])
            · rcases List.mem_cons.1 h1 with rfl | h1
              · exact .inl (by simp)
              · exact .inr ⟨h1, h2⟩
        · rintro (h1 | ⟨h1, h2⟩)
          · rcases List.mem_append.1 h1 with h1 | h1
            · rcases List.mem_append.1 h1 with h1 | h1
              · exact .inl h1
              · exact .inr ⟨by show z ∈ l.list ++ x :: r.list; simp [h1], hql z h1⟩
            · obtain rfl := List.mem_singleton.1 h1
              exact .inr ⟨by show z ∈ l.list ++ z :: r.list; simp, e⟩
          · exact .inr ⟨by show z ∈ l.list ++ x :: r.list; simp [h1], h2⟩
def eligA (A : As) : List RT := A.l.filter fun a => decide (0 ≤ ovA A a)
def firstDue : List RT → Option RT
  | [] => none
  | a :: l => some (l.foldl (fun a b => bif due b.1.i a.1.i then b else a) a)
def soonA (A : As) : Option RT := firstDue (eligA A)
def MinR (X : List RT) : Option RT → Prop
  | none => X = []
  | some m => m ∈ X ∧ ∀ y ∈ X, due y.1.i m.1.i = false
theorem first_min {S : RT → Prop} (o : OrdOn (fun x y : RT => due x.1.i y.1.i) S) : ∀ {X : List RT}, (∀ z ∈ X, S z) → MinR X (firstDue X)
  | [], _ => rfl
  | a :: l, h => by
    suffices H : ∀ (l : List RT) (a : RT) (Y : List RT), (∀ z ∈ Y, S z) → (∀ z ∈ l, S z) → MinR Y (some a) → MinR (Y ++ l) (some (l.foldl (fun a b => bif due b.1.i a.1.i then b else a) a)) from
      H l a [a] (fun z hz => h z (by simp at hz; simp [hz])) (fun z hz => h z (List.mem_cons_of_mem _ hz)) ⟨by simp, fun y hy => by obtain rfl := List.mem_singleton.1 hy; exact o.irr y (h y List.mem_cons_self)⟩
    intro l
    induction l with
    | nil => intro a Y _ _ h; rw [List.append_nil]; exact h
    | cons b l ih =>
      intro a Y hY hl h
      rw [List.foldl_cons, show Y ++ b :: l = (Y ++ [b]) ++ l by simp]
      have hb := hl b List.mem_cons_self
      have ha := hY a h.1
      refine ih _ _ (fun z hz => ?_) (fun z hz => hl z (List.mem_cons_of_mem _ hz)) ?_
      · rcases List.mem_append.1 hz with hz | hz
        · exact hY z hz
        · obtain rfl := List.mem_singleton.1 hz; exact hb
      · cases e : due b.1.i a.1.i
        · refine ⟨by simp [h.1], fun y hy => ?_⟩
          rcases List.mem_append.1 hy with hy | hy
          · exact h.2 y hy
          · obtain rfl := List.mem_singleton.1 hy; exact e
        · refine ⟨by simp, fun y hy => ?_⟩
          rcases List.mem_append.1 hy with hy | hy
          · show due y.1.i b.1.i = false
            cases k : due y.1.i b.1.i
            · rfl
            · have := o.tr y b a (hY y hy) hb ha k e
              exact absurd (h.2 y hy) (by rw [show due y.1.i a.1.i = true from this]; simp)
          · obtain rfl := List.mem_singleton.1 hy; exact o.irr y hb
theorem OrdR.inj {l : List RT} (h : OrdR l) : ∀ x ∈ l, ∀ y ∈ l, idR x = idR y → x = y := fun x hx y hy e => by
  have h1 := findR_at h hx
  rw [e, findR_at h hy] at h1
  exact (Option.some.inj h1).symm
theorem ahead_le {b lo : Int} {x y : It} (hx : Win b lo x) (hy : Win b lo y) (hm : Mid lo) (h : ahead x y = true) : leP b x.p y.p := by
  have d1 := hx.dead hm
  have d2 := hy.dead hm
  have l1 := hx.low
  have l2 := hy.low
  have hc := cmp_le (cmpP_frac hx.isin.1 hy.isin.1 (iright_all hx.isin hx.right).1 (iright_all hy.isin hy.right).1 (b := b) (by unfold Near; unfold Mid at hm; omega))
  unfold ahead at h
  simp only [Bool.or_eq_true, Bool.and_eq_true, decide_eq_true_eq] at h
  rcases h with h | h
  · have := hc.1.1 h; unfold leP at *; omega
  · exact (hc.2.1 h.1).1
theorem elig_ahead {m : Mn} {l : List It} (h : Cen m l) {x y : It} (hx : x ∈ l) (hy : y ∈ l) (ha : ahead x y = true) (he : elig m y.p = true) : elig m x.p = true := by
  obtain ⟨lo, k⟩ := h.all
  have wx := k.2.2 x hx
  have wy := k.2.2 y hy
  have hl := ahead_le wx wy k.1 ha
  unfold elig at he ⊢
  rw [(over_ok h hx).1]
  rw [(over_ok h hy).1] at he
  simp only [Option.isSome_some, Option.getD_some, Bool.true_and, decide_eq_true_eq] at he ⊢
  have p1 := (iright_all wx.isin wx.right).2.2.2.2.2.2.1
  have p2 := (iright_all wy.isin wy.right).2.2.2.2.2.2.1
  have a0 := h.a0
  have a1 := h.a1
  have := fr_trans (p := x.p.w) (q := y.p.w) (r := m.w) (by omega) (by omega) (by omega) hl (show dist y.p m.b * m.w ≤ m.a * y.p.w by unfold ovL at he; omega)
  unfold ovL; omega
def soonI (A : As) : It := match soonA A with | none => .zero | some a => a.1.i
theorem Rep.soon {s : Ss} {A : As} (h : Rep s A) : IB.valO (soonQ s.q) = soonI A ∧ (soonQ s.q).isSome = (soonA A).isSome := by
  obtain ⟨lo, hW⟩ := h.q.win
  have hwin := plain_win hW
  have o1 : OrdOn (fun x y : IT => due x.1 y.1) (· ∈ s.q.t.list) := dueT hwin hW.1 h.q.inj
  have hin : ∀ a : RT, a ∈ A.l → itR a ∈ s.q.t.list := fun a ha => h.p.mem_iff.2 (List.mem_map_of_mem ha)
  have o2 : OrdOn (fun x y : RT => due x.1.i y.1.i) (· ∈ A.l) := ⟨fun a ha => o1.irr (itR a) (hin a ha), fun a b c ha hb hc => o1.tr (itR a) (itR b) (itR c) (hin a ha) (hin b hb) (hin c hc), fun a b ha hb k1 k2 => by
    have := o1.tri (itR a) (itR b) (hin a ha) (hin b hb) k1 k2
    exact h.o.inj a ha b hb (congrArg (fun z : IT => z.1.id) this)⟩
  have hmono : s.q.t.list.Pairwise (fun a b => elig s.q.m b.1.p = true → elig s.q.m a.1.p = true) := by
    by_cases e : s.q.t.list = []
    · rw [e]; exact List.Pairwise.nil
    · refine List.Pairwise.imp_of_mem (fun {a b} ha hb hab => ?_) h.q.srt
      exact elig_ahead (h.q.cen e) (List.mem_map_of_mem ha) (List.mem_map_of_mem hb) hab
  have hE : ∀ a ∈ A.l, elig s.q.m a.1.i.p = decide (0 ≤ ovA A a) := fun a ha => by
    unfold elig
    rw [(h.over ha).1]; rfl
  have hm : MinOf ((eligA A).map itR) (soonQ s.q) := fold_min (X := []) o1 (fun z hz => hz) (fun z hz => by cases hz) rfl hmono fun z => by
    rw [List.mem_map]
    constructor
    · rintro ⟨a, ha, rfl⟩
      obtain ⟨h1, h2⟩ := List.mem_filter.1 ha
      exact .inr ⟨hin a h1, by show elig s.q.m a.1.i.p = true; rw [hE a h1]; exact h2⟩
    · rintro (h1 | ⟨h1, h2⟩)
      · cases h1
      · obtain ⟨a, ha, rfl⟩ := List.mem_map.1 (h.p.mem_iff.1 h1)
        exact ⟨a, List.mem_filter.2 ⟨ha, by rw [← hE a ha]; exact h2⟩, rfl⟩
  have hr : MinR (eligA A) (soonA A) := first_min o2 fun z hz => (List.mem_filter.1 hz).1
  cases e1 : soonQ s.q with
  | none =>
    rw [e1] at hm
    have : eligA A = [] := List.map_eq_nil_iff.1 hm
    unfold soonI soonA
    rw [this]; exact ⟨rfl, rfl⟩
  | some m =>
    rw [e1] at hm
    obtain ⟨h1, h2⟩ := hm
    obtain ⟨a, ha, rfl⟩ := List.mem_map.1 h1
    cases e2 : soonA A with
    | none => rw [e2] at hr; rw [show eligA A = [] from hr] at ha; cases ha
    | some b =>
      rw [e2] at hr
      obtain ⟨h3, h4⟩ := hr
      have : a = b := o2.tri a b (List.mem_filter.1 ha).1 (List.mem_filter.1 h3).1 (h4 a ha) (h2 (itR b) (List.mem_map_of_mem h3))
      subst this
      unfold soonI
      rw [e2]; exact ⟨rfl, rfl⟩
end Go.Proofs.YtilajmcellffiaaGreatDoorX

namespace Go.Proofs.YtilajmcellffiaaGreatDoorX
open IB (IT)
def er (r : RT) : RT := wakeR r false
theorem er_wake (a : RT) (b : Bool) : er (wakeR a b) = er a := rfl
theorem er_id (a : RT) : idR (er a) = idR a := rfl
theorem er_i (a : RT) : (er a).1.i = a.1.i := rfl
def erL (l : List RT) : List RT := l.map er
theorem its_er (l : List RT) : its (erL l) = its l := by unfold its erL; rw [List.map_map]; rfl
theorem findR_er : ∀ (l : List RT) (i : Int), findR (erL l) i = (findR l i).map er
  | [], i => rfl
  | a :: l, i => by
    show findR (er a :: erL l) i = _
    rw [findR_cons, findR_cons, er_id]
    by_cases h : idR a = i
    · rw [if_pos h, if_pos h]; rfl
    · rw [if_neg h, if_neg h, findR_er l i]
theorem er_put {a r : RT} (hr : er r = er a) : ∀ {l : List RT}, findR l (idR a) = some a → OrdR l → erL (putR r l) = erL l
  | [], h, _ => by cases h
  | x :: l, h, ho => by
    have hid : idR r = idR a := by rw [← er_id r, hr, er_id]
    rw [findR_cons] at h
    by_cases e : idR x = idR a
    · rw [if_pos e] at h
      cases h
      unfold putR
      rw [if_neg (by omega), if_pos hid]
      show er r :: erL l = er a :: erL l
      rw [hr]
    · rw [if_neg e] at h
      obtain ⟨hm, _⟩ := findR_some h
      have hlt : idR x < idR a := by
        unfold OrdR at ho
        rw [List.map_cons, List.pairwise_cons] at ho
        exact ho.1 _ (List.mem_map_of_mem hm)
      unfold putR
      rw [if_neg (by omega), if_neg (by omega)]
      show er x :: erL (putR r l) = er x :: erL l
      rw [er_put hr h (by unfold OrdR at *; rw [List.map_cons, List.pairwise_cons] at ho; exact ho.2)]
def AlikeA (A B : As) : Prop := erL A.l = erL B.l ∧ A.c = B.c
theorem AlikeA.refl (A : As) : AlikeA A A := ⟨rfl, rfl⟩
theorem AlikeA.rouse {A B : As} (h : AlikeA A B) (ho : OrdR B.l) (id : Int) (b : Bool) : AlikeA A (rouA B id b) := by
  unfold rouA
  cases e : findR B.l id with
  | none => exact h
  | some a =>
    obtain ⟨_, e2⟩ := findR_some e
    refine ⟨?_, h.2⟩
    show erL A.l = erL (putR (wakeR a b) B.l)
    rw [er_put (er_wake a b) (by rw [e2]; exact e) ho]
    exact h.1
theorem AlikeA.itsEq {A B : As} (h : AlikeA A B) : its A.l = its B.l := by rw [← its_er, h.1, its_er]
theorem AlikeA.len {A B : As} (h : AlikeA A B) : A.l.length = B.l.length := by
  have := congrArg List.length h.1
  unfold erL at this
  rwa [List.length_map, List.length_map] at this
theorem AlikeA.nil {A B : As} (h : AlikeA A B) : A.l = [] ↔ B.l = [] := by rw [← List.length_eq_zero_iff, h.len, List.length_eq_zero_iff]
theorem AlikeA.now {A B : As} (h : AlikeA A B) : nowA A = nowA B := by
  unfold nowA
  by_cases e : A.l = []
  · rw [if_pos e, if_pos (h.nil.1 e), h.2]
  · rw [if_neg e, if_neg (fun k => e (h.nil.2 k)), h.itsEq]
theorem AlikeA.m {A B : As} (h : AlikeA A B) : mA A = mA B := by unfold mA; rw [h.itsEq]
theorem AlikeA.find {A B : As} (h : AlikeA A B) (i : Int) : (findR A.l i).map er = (findR B.l i).map er := by rw [← findR_er, h.1, findR_er]
theorem ovA_er (A : As) (a : RT) : ovA A (er a) = ovA A a := rfl
theorem AlikeA.ov {A B : As} (h : AlikeA A B) (a : RT) : ovA A a = ovA B a := by unfold ovA; rw [h.m]
theorem AlikeA.lag {A B : As} (h : AlikeA A B) (id : Int) : lagA A id = lagA B id := by
  have e := h.find id
  unfold lagA
  cases ea : findR A.l id with
  | none =>
    cases eb : findR B.l id with
    | none => rfl
    | some b => rw [ea, eb] at e; cases e
  | some a =>
    cases eb : findR B.l id with
    | none => rw [ea, eb] at e; cases e
    | some b =>
      rw [ea, eb] at e
      have e1 : er a = er b := Option.some.inj e
      show lagR A a = lagR B b
      unfold lagR
      rw [← ovA_er A a, e1, ovA_er, h.ov, h.m]
theorem er_elig (A : As) : ∀ l : List RT, erL (l.filter fun a => decide (0 ≤ ovA A a)) = (erL l).filter fun a => decide (0 ≤ ovA A a)
  | [] => rfl
  | a :: l => by
    show erL (List.filter _ (a :: l)) = List.filter _ (er a :: erL l)
    rw [List.filter_cons, List.filter_cons, ovA_er]
    by_cases h : 0 ≤ ovA A a
    · rw [if_pos (decide_eq_true h), if_pos (decide_eq_true h), ← er_elig A l]; rfl
    · rw [if_neg (by simpa using h), if_neg (by simpa using h), ← er_elig A l]
theorem er_first : ∀ l : List RT, firstDue (erL l) = (firstDue l).map er
  | [] => rfl
  | a :: l => by
    suffices H : ∀ (l : List RT) (a : RT), (erL l).foldl (fun a b => bif due b.1.i a.1.i then b else a) (er a) = er (l.foldl (fun a b => bif due b.1.i a.1.i then b else a) a) from congrArg some (H l a)
    intro l
    induction l with
    | nil => intro a; rfl
    | cons b l ih =>
      intro a
      show (erL l).foldl _ (bif due (er b).1.i (er a).1.i then er b else er a) = _
      rw [er_i, er_i, List.foldl_cons]
      cases due b.1.i a.1.i with
      | true => exact ih b
      | false => exact ih a
theorem AlikeA.soon {A B : As} (h : AlikeA A B) : soonI A = soonI B ∧ (soonA A).isSome = (soonA B).isSome := by
  have e : (soonA A).map er = (soonA B).map er := by
    unfold soonA eligA
    rw [← er_first, ← er_first, er_elig, er_elig, h.1]
    refine congrArg firstDue (List.filter_congr fun x _ => ?_)
    rw [h.ov]
  unfold soonI
  cases ea : soonA A with
  | none =>
    cases eb : soonA B with
    | none => exact ⟨rfl, rfl⟩
    | some b => rw [ea, eb] at e; cases e
  | some a =>
    cases eb : soonA B with
    | none => rw [ea, eb] at e; cases e
    | some b =>
      rw [ea, eb] at e
      have e1 : er a = er b := Option.some.inj e
      exact ⟨by show a.1.i = b.1.i; rw [← er_i a, e1, er_i], rfl⟩
theorem AlikeA.told {A B : As} (h : AlikeA A B) (ho : OrdR A.l) {a : RT} (ha : a ∈ A.l) : (findR A.l (idR a)).isSome = true ∧ (findR B.l (idR a)).isSome = true ∧ (getL B.l (idR a)).i = a.1.i ∧ (getL B.l (idR a)).left = a.1.left ∧ (getL B.l (idR a)).slice = a.1.slice := by
  have h1 := findR_at ho ha
  have e := h.find (idR a)
  rw [h1] at e
  unfold getL
  cases eb : findR B.l (idR a) with
  | none => rw [eb] at e; cases e
  | some b =>
    rw [eb] at e
    have e1 : er a = er b := Option.some.inj e
    refine ⟨by rw [h1]; rfl, rfl, ?_, ?_, ?_⟩
    · show b.1.i = a.1.i; rw [← er_i b, ← e1, er_i]
    · have : (er b).1.left = (er a).1.left := by rw [e1]
      exact this
    · have : (er b).1.slice = (er a).1.slice := by rw [e1]
      exact this
end Go.Proofs.YtilajmcellffiaaGreatDoorX

namespace Go.Proofs.YtilajmcellffiaaGreatDoorX
open Go Go.RowKit
def u8R (x : Int) : List Value := [.int .u8 x]
structure Ac16 where
  d : Int
  r : RT
abbrev Ac16.cells (a : Ac16) : List Value := .int .u8 a.d :: a.r.1.cells
def Ac16.In (a : Ac16) : Prop := 0 ≤ a.d ∧ a.d < 256
theorem rzero_in : Rq.zero.In := by decide
instance : Inhabited Ac16 := ⟨⟨0, ⟨.zero, rzero_in⟩⟩⟩
def act16 (A : As) (a : Ac16) : As := if a.d % 6 = 2 then extA A (idR a.r) else entA A a.r
def acts16 (A : As) (l : List Ac16) : As := l.foldl act16 A
theorem acts16_snoc (A : As) (l : List Ac16) (a : Ac16) : acts16 A (l ++ [a]) = act16 (acts16 A l) a := by unfold acts16; rw [List.foldl_append]; rfl
end Go.Proofs.YtilajmcellffiaaGreatDoorX

namespace Go.Proofs.YtilajmcellffiaaGreatDoorX
open Go Go.RowKit Go.ChangeShapes Go.WideShapes Go.ChangeAt
theorem shape_pos : Tryz.prog.underlying 27 = some (.struct #[{ name := "Time", type := 24, offset := 0, embedded := true, tag := "", pkgPath := "", byteOffset := 0 }, { name := "R", type := 25, offset := 1, embedded := false, tag := "", pkgPath := "", byteOffset := 8 }, { name := "W", type := 25, offset := 2, embedded := false, tag := "", pkgPath := "", byteOffset := 12 }]) := by kernel_rfl
theorem cells_pos : Tryz.prog.cellsOf 27 = 3 := by kernel_rfl
set_option maxRecDepth 100000 in
theorem dec_pos {H : Type} {enc : TypeId × Value → H} {W : World} {base : Nat} {spare : Nat → Bool} {held : Bool} (fuel : Nat) (cs : List Value) (x) (h : DataW.trod enc Tryz.prog W base spare held fuel 27 cs = some x) : ∃ q : Pt, cs = [.int .u64 q.t, .int .u32 q.r, .int .u32 q.w] ∧ Pt.In q := by
  obtain ⟨xs, n, _, _, hl, hlen, hq⟩ := DataW.trod_struct shape_pos h
  rw [cells_pos] at hl
  match cs, hl with
  | [v0, v1, v2], _ =>
    match xs, hlen with
    | [y0, y1, y2], _ =>
      have h0 := hq 0 _ rfl
      obtain ⟨a0, e0, _, w0⟩ := DataW.trod_int (t := 24) (k := .u64) (by kernel_rfl) h0
      replace w0 := rng_u64 w0
      have q0 : v0 = .int .u64 a0 := by
        have e : List.take (Tryz.prog.cellsOf 24) (List.drop 0 [v0, v1, v2]) = [.int .u64 a0] := e0
        rw [show Tryz.prog.cellsOf 24 = 1 by kernel_rfl] at e; simpa using e
      have h1 := hq 1 _ rfl
      obtain ⟨a1, e1, _, w1⟩ := DataW.trod_int (t := 25) (k := .u32) (by kernel_rfl) h1
      replace w1 := rng_u32 w1
      have q1 : v1 = .int .u32 a1 := by
        have e : List.take (Tryz.prog.cellsOf 25) (List.drop 1 [v0, v1, v2]) = [.int .u32 a1] := e1
        rw [show Tryz.prog.cellsOf 25 = 1 by kernel_rfl] at e; simpa using e
      have h2 := hq 2 _ rfl
      obtain ⟨a2, e2, _, w2⟩ := DataW.trod_int (t := 25) (k := .u32) (by kernel_rfl) h2
      replace w2 := rng_u32 w2
      have q2 : v2 = .int .u32 a2 := by
        have e : List.take (Tryz.prog.cellsOf 25) (List.drop 2 [v0, v1, v2]) = [.int .u32 a2] := e2
        rw [show Tryz.prog.cellsOf 25 = 1 by kernel_rfl] at e; simpa using e
      subst q0
      subst q1
      subst q2
      exact ⟨⟨a0, a1, a2⟩, rfl, ⟨w0, w1, w2⟩⟩
theorem shape_item : Tryz.prog.underlying 29 = some (.struct #[{ name := "Pos", type := 27, offset := 0, embedded := true, tag := "", pkgPath := "", byteOffset := 0 }, { name := "ID", type := 3, offset := 3, embedded := false, tag := "", pkgPath := "", byteOffset := 16 }, { name := "Dead", type := 27, offset := 4, embedded := false, tag := "", pkgPath := "", byteOffset := 24 }]) := by kernel_rfl
theorem cells_item : Tryz.prog.cellsOf 29 = 7 := by kernel_rfl
set_option maxRecDepth 100000 in
theorem dec_item {H : Type} {enc : TypeId × Value → H} {W : World} {base : Nat} {spare : Nat → Bool} {held : Bool} (fuel : Nat) (cs : List Value) (x) (h : DataW.trod enc Tryz.prog W base spare held fuel 29 cs = some x) : ∃ q : It, cs = [.int .u64 q.p.t, .int .u32 q.p.r, .int .u32 q.p.w, .int .i64 q.id, .int .u64 q.d.t, .int .u32 q.d.r, .int .u32 q.d.w] ∧ It.In q := by
  obtain ⟨xs, n, _, _, hl, hlen, hq⟩ := DataW.trod_struct shape_item h
  rw [cells_item] at hl
  match cs, hl with
  | [v0, v1, v2, v3, v4, v5, v6], _ =>
    match xs, hlen with
    | [y0, y1, y2], _ =>
      have h0 := hq 0 _ rfl
      obtain ⟨a0, e0, w0⟩ := dec_pos n _ _ h0
      have q0 : [v0, v1, v2] = [.int .u64 a0.t, .int .u32 a0.r, .int .u32 a0.w] := by
        have e : List.take (Tryz.prog.cellsOf 27) (List.drop 0 [v0, v1, v2, v3, v4, v5, v6]) = [.int .u64 a0.t, .int .u32 a0.r, .int .u32 a0.w] := e0
        rw [cells_pos] at e; simpa using e
      have h1 := hq 1 _ rfl
      obtain ⟨a1, e1, _, w1⟩ := DataW.trod_int (t := 3) (k := .i64) (by kernel_rfl) h1
      replace w1 := rng_i64 w1
      have q1 : v3 = .int .i64 a1 := by
        have e : List.take (Tryz.prog.cellsOf 3) (List.drop 3 [v0, v1, v2, v3, v4, v5, v6]) = [.int .i64 a1] := e1
        rw [show Tryz.prog.cellsOf 3 = 1 by kernel_rfl] at e; simpa using e
      have h2 := hq 2 _ rfl
      obtain ⟨a2, e2, w2⟩ := dec_pos n _ _ h2
      have q2 : [v4, v5, v6] = [.int .u64 a2.t, .int .u32 a2.r, .int .u32 a2.w] := by
        have e : List.take (Tryz.prog.cellsOf 27) (List.drop 4 [v0, v1, v2, v3, v4, v5, v6]) = [.int .u64 a2.t, .int .u32 a2.r, .int .u32 a2.w] := e2
        rw [cells_pos] at e; simpa using e
      simp only [List.cons.injEq, and_true] at q0
      obtain ⟨rfl, rfl, rfl⟩ := q0
      subst q1
      simp only [List.cons.injEq, and_true] at q2
      obtain ⟨rfl, rfl, rfl⟩ := q2
      exact ⟨⟨a0, a1, a2⟩, rfl, ⟨w0, w1, w2⟩⟩
theorem shape_req : Tryz.prog.underlying 31 = some (.struct #[{ name := "Item", type := 29, offset := 0, embedded := true, tag := "", pkgPath := "", byteOffset := 0 }, { name := "Left", type := 22, offset := 7, embedded := false, tag := "", pkgPath := "", byteOffset := 40 }, { name := "Slice", type := 22, offset := 8, embedded := false, tag := "", pkgPath := "", byteOffset := 48 }, { name := "Asleep", type := 4, offset := 9, embedded := false, tag := "", pkgPath := "", byteOffset := 56 }]) := by kernel_rfl
theorem cells_req : Tryz.prog.cellsOf 31 = 10 := by kernel_rfl
set_option maxRecDepth 100000 in
theorem dec_req {H : Type} {enc : TypeId × Value → H} {W : World} {base : Nat} {spare : Nat → Bool} {held : Bool} (fuel : Nat) (cs : List Value) (x) (h : DataW.trod enc Tryz.prog W base spare held fuel 31 cs = some x) : ∃ q : Rq, cs = [.int .u64 q.i.p.t, .int .u32 q.i.p.r, .int .u32 q.i.p.w, .int .i64 q.i.id, .int .u64 q.i.d.t, .int .u32 q.i.d.r, .int .u32 q.i.d.w, .int .u64 q.left, .int .u64 q.slice, .bool q.asleep] ∧ Rq.In q := by
  obtain ⟨xs, n, _, _, hl, hlen, hq⟩ := DataW.trod_struct shape_req h
  rw [cells_req] at hl
  match cs, hl with
  | [v0, v1, v2, v3, v4, v5, v6, v7, v8, v9], _ =>
    match xs, hlen with
    | [y0, y1, y2, y3], _ =>
      have h0 := hq 0 _ rfl
      obtain ⟨a0, e0, w0⟩ := dec_item n _ _ h0
      have q0 : [v0, v1, v2, v3, v4, v5, v6] = [.int .u64 a0.p.t, .int .u32 a0.p.r, .int .u32 a0.p.w, .int .i64 a0.id, .int .u64 a0.d.t, .int .u32 a0.d.r, .int .u32 a0.d.w] := by
        have e : List.take (Tryz.prog.cellsOf 29) (List.drop 0 [v0, v1, v2, v3, v4, v5, v6, v7, v8, v9]) = [.int .u64 a0.p.t, .int .u32 a0.p.r, .int .u32 a0.p.w, .int .i64 a0.id, .int .u64 a0.d.t, .int .u32 a0.d.r, .int .u32 a0.d.w] := e0
        rw [cells_item] at e; simpa using e
      have h1 := hq 1 _ rfl
      obtain ⟨a1, e1, _, w1⟩ := DataW.trod_int (t := 22) (k := .u64) (by kernel_rfl) h1
      replace w1 := rng_u64 w1
      have q1 : v7 = .int .u64 a1 := by
        have e : List.take (Tryz.prog.cellsOf 22) (List.drop 7 [v0, v1, v2, v3, v4, v5, v6, v7, v8, v9]) = [.int .u64 a1] := e1
        rw [show Tryz.prog.cellsOf 22 = 1 by kernel_rfl] at e; simpa using e
      have h2 := hq 2 _ rfl
      obtain ⟨a2, e2, _, w2⟩ := DataW.trod_int (t := 22) (k := .u64) (by kernel_rfl) h2
      replace w2 := rng_u64 w2
      have q2 : v8 = .int .u64 a2 := by
        have e : List.take (Tryz.prog.cellsOf 22) (List.drop 8 [v0, v1, v2, v3, v4, v5, v6, v7, v8, v9]) = [.int .u64 a2] := e2
        rw [show Tryz.prog.cellsOf 22 = 1 by kernel_rfl] at e; simpa using e
      have h3 := hq 3 _ rfl
      obtain ⟨a3, e3, _⟩ := DataW.trod_bool (t := 4) (by kernel_rfl) h3
      have q3 : v9 = .bool a3 := by
        have e : List.take (Tryz.prog.cellsOf 4) (List.drop 9 [v0, v1, v2, v3, v4, v5, v6, v7, v8, v9]) = [.bool a3] := e3
        rw [show Tryz.prog.cellsOf 4 = 1 by kernel_rfl] at e; simpa using e
      simp only [List.cons.injEq, and_true] at q0
      obtain ⟨rfl, rfl, rfl, rfl, rfl, rfl, rfl⟩ := q0
      subst q1
      subst q2
      subst q3
      exact ⟨⟨a0, a1, a2, a3⟩, rfl, ⟨w0, w1, w2⟩⟩
theorem shape_act16 : Tryz.prog.underlying 36 = some (.struct #[{ name := "Do", type := 5, offset := 0, embedded := false, tag := "", pkgPath := "", byteOffset := 0 }, { name := "R", type := 31, offset := 1, embedded := false, tag := "", pkgPath := "", byteOffset := 8 }]) := by kernel_rfl
theorem cells_act16 : Tryz.prog.cellsOf 36 = 11 := by kernel_rfl
set_option maxRecDepth 100000 in
theorem dec_act16 {H : Type} {enc : TypeId × Value → H} {W : World} {base : Nat} {spare : Nat → Bool} {held : Bool} (fuel : Nat) (cs : List Value) (x) (h : DataW.trod enc Tryz.prog W base spare held fuel 36 cs = some x) : ∃ q : Ac16, cs = [.int .u8 q.d, .int .u64 q.r.1.i.p.t, .int .u32 q.r.1.i.p.r, .int .u32 q.r.1.i.p.w, .int .i64 q.r.1.i.id, .int .u64 q.r.1.i.d.t, .int .u32 q.r.1.i.d.r, .int .u32 q.r.1.i.d.w, .int .u64 q.r.1.left, .int .u64 q.r.1.slice, .bool q.r.1.asleep] ∧ Ac16.In q := by
  obtain ⟨xs, n, _, _, hl, hlen, hq⟩ := DataW.trod_struct shape_act16 h
  rw [cells_act16] at hl
  match cs, hl with
  | [v0, v1, v2, v3, v4, v5, v6, v7, v8, v9, v10], _ =>
    match xs, hlen with
    | [y0, y1], _ =>
      have h0 := hq 0 _ rfl
      obtain ⟨a0, e0, _, w0⟩ := DataW.trod_int (t := 5) (k := .u8) (by kernel_rfl) h0
      replace w0 := rng_u8 w0
      have q0 : v0 = .int .u8 a0 := by
        have e : List.take (Tryz.prog.cellsOf 5) (List.drop 0 [v0, v1, v2, v3, v4, v5, v6, v7, v8, v9, v10]) = [.int .u8 a0] := e0
        rw [show Tryz.prog.cellsOf 5 = 1 by kernel_rfl] at e; simpa using e
      have h1 := hq 1 _ rfl
      obtain ⟨a1, e1, w1⟩ := dec_req n _ _ h1
      have q1 : [v1, v2, v3, v4, v5, v6, v7, v8, v9, v10] = [.int .u64 a1.i.p.t, .int .u32 a1.i.p.r, .int .u32 a1.i.p.w, .int .i64 a1.i.id, .int .u64 a1.i.d.t, .int .u32 a1.i.d.r, .int .u32 a1.i.d.w, .int .u64 a1.left, .int .u64 a1.slice, .bool a1.asleep] := by
        have e : List.take (Tryz.prog.cellsOf 31) (List.drop 1 [v0, v1, v2, v3, v4, v5, v6, v7, v8, v9, v10]) = [.int .u64 a1.i.p.t, .int .u32 a1.i.p.r, .int .u32 a1.i.p.w, .int .i64 a1.i.id, .int .u64 a1.i.d.t, .int .u32 a1.i.d.r, .int .u32 a1.i.d.w, .int .u64 a1.left, .int .u64 a1.slice, .bool a1.asleep] := e1
        rw [cells_req] at e; simpa using e
      subst q0
      simp only [List.cons.injEq, and_true] at q1
      obtain ⟨rfl, rfl, rfl, rfl, rfl, rfl, rfl, rfl, rfl, rfl⟩ := q1
      exact ⟨⟨a0, ⟨a1, w1⟩⟩, rfl, w0⟩
set_option maxRecDepth 100000 in
theorem open_acts16 {H : Type} {enc : TypeId × Value → H} {W : World} {r : Reach} {b0 base : Nat} {spare : Nat → Bool} {held : Bool} {v : Value} {d : DataW H} {p : List MemPlace} (hv : Value.okWide Tryz.prog W r b0 23 v)
    (h : DataW.Trod enc Tryz.prog W base spare held 23 v d p) : ∃ xs : List Ac16, LsX W 11 v (xs.map Ac16.cells) ∧ ∀ a ∈ xs, a.In :=
  open_rows (cells := Ac16.cells) (by kernel_rfl) cells_act16 (by decide) (fun _ => rfl) dec_act16 hv h
set_option maxRecDepth 100000 in
theorem open_bytes {H : Type} {enc : TypeId × Value → H} {W : World} {r : Reach} {b0 base : Nat} {spare : Nat → Bool} {held : Bool} {v : Value} {d : DataW H} {p : List MemPlace} (hv : Value.okWide Tryz.prog W r b0 56 v)
    (h : DataW.Trod enc Tryz.prog W base spare held 56 v d p) : ∃ xs : List Int, LsX W 1 v (xs.map u8R) ∧ ∀ a ∈ xs, 0 ≤ a ∧ a < 256 :=
  open_rows (e := 5) (cells := u8R) (Q := fun a : Int => 0 ≤ a ∧ a < 256) (by kernel_rfl) (by kernel_rfl) (by decide) (fun _ => rfl) (fun fuel cs x h => by
    obtain ⟨a, e, _, w⟩ := DataW.trod_int (t := 5) (k := .u8) (by kernel_rfl) h
    exact ⟨a, e, rng_u8 w⟩) hv h
end Go.Proofs.YtilajmcellffiaaGreatDoorX

namespace Go.Proofs.YtilajmcellffiaaGreatDoorX
open Go Go.RowKit Go.Maps Go.Shelf
open IB (IT ITsAt flatT)
attribute [local irreducible] XS XC XA thenE blockE retE loopE loopS cutB cutN doneE SE
theorem mcloneI_ret (b c : Nat) (f : Int → Option Value) (w0 : World) (h : MapAt w0 b f c) : Ret Tryz.prog 108 #[.map (some b)] w0 fun v w' => (∃ mb, v = .map (some mb) ∧ MapAt w' mb f c ∧ w0.heap.size ≤ mb) ∧ Only [] w0 w' := by
  obtain ⟨D, h1, h2⟩ := h
  exact ret_of_calls (by kernel_rfl) ((AnyW.maps_Clone_owns Tryz.cloneI 3 hld b c D w0 h1).mono fun e w' ⟨he, k1, k2, k3⟩ => ⟨_, he, ⟨_, rfl, ⟨D, k1, h2⟩, Nat.le_refl _⟩, Only.of_below k3⟩)
theorem mcloneR_ret (b c : Nat) (f : Int → Option Value) (w0 : World) (h : MapAt w0 b f c) : Ret Tryz.prog 66 #[.map (some b)] w0 fun v w' => (∃ mb, v = .map (some mb) ∧ MapAt w' mb f c ∧ w0.heap.size ≤ mb) ∧ Only [] w0 w' := by
  obtain ⟨D, h1, h2⟩ := h
  exact ret_of_calls (by kernel_rfl) ((AnyW.maps_Clone_owns Tryz.cloneR 3 hld b c D w0 h1).mono fun e w' ⟨he, k1, k2, k3⟩ => ⟨_, he, ⟨_, rfl, ⟨D, k1, h2⟩, Nat.le_refl _⟩, Only.of_below k3⟩)
set_option maxHeartbeats 4000000 in
theorem qclone_ret (qb : Nat) (s : Qs) (F : List Nat) (w0 : World) (h : QAt w0 qb s F) :
    Ret Tryz.prog 65 #[.pointer (some ⟨qb, 0, none⟩)] w0 fun v w' => (∃ q' F', v = .pointer (some ⟨q', 0, none⟩) ∧ QAt w' q' s F' ∧ ∀ k ∈ F', w0.heap.size ≤ k) ∧ Only [] w0 w' := by
  obtain ⟨tb, mb, Ft, rfl, h1, h2, h3, h4, h5⟩ := h
  have hs := (St.nil w0).track h1 (by simp)
  refine ret_of_xc Tryz.func65 (by kernel_rfl) rfl Tryz.ntmps65 rfl rfl rfl ?_
  repeat' (first|refine vs (k:=?_)|refine qRg ?_|refine Nx.h ?_|refine qCf ?_|fail)
  refine dr [] hs (k := ?_); intro hX w hs
  refine tk 0 hX (k := ?_)
  refine tk 1 hX (k := ?_)
  refine tk 2 hX (k := ?_)
  refine tk 3 hX (k := ?_)
  refine tk 4 hX (k := ?_)
  refine tk 5 hX (k := ?_)
  refine tk 6 hX (k := ?_)
  refine tk 7 hX (k := ?_)
  refine tk 9 hX (k := ?_)
  refine tk 10 hX (k := ?_)
  refine tk 11 hX (k := ?_)
  refine tk 12 hX (k := ?_)
  refine tk 14 hX (k := ?_)
  refine tk 15 hX (k := ?_)
  refine tk 16 hX (k := ?_)
  refine tk 17 hX (k := ?_)
  refine dt 8 hX (k := ?_)
  have ho := hs.onlyF [] (by simp [h1]) (by simp [D0])
  (with_reducible apply xs_call); exact rfl; exact rfl; exact IB.dclone_ret tb s.t Ft _ (h3.only ho)
  rintro v w1 ⟨⟨t', Ft', rfl, k3, hF⟩, ho1⟩; replace hs := hs.call0 ho1; repeat' (first|refine Nx.h ?_|fail)
  have n1 := ho.size
  refine dn (k := ?_)
  refine dt 13 hX (k := ?_)
  have ho2 := hs.onlyF [] (by simp [h1]) (by simp [D0])
  (with_reducible apply xs_call); exact rfl; exact rfl; exact mcloneI_ret mb s.n _ _ (h2.keep ho2 (by simp))
  rintro v w2 ⟨⟨m', rfl, k2, hm⟩, ho3⟩; replace hs := hs.call0 ho3
  have n2 := ho2.size
  have l3 := k3.lt
  have hoA := hs.onlyF [] (by simp [h1]) (by simp [D0])
  have kq := hs.get At.head
  have n3 := hoA.size
  have n4 := ho3.size
  clear hs
  have hs := (St.nil w2).track kq (by simp)
  repeat' (first|refine Nx.h ?_|fail)
  refine dn (k := ?_)
  refine tk 18 hX (k := ?_)
  refine dt 19 hX (k := ?_)
  repeat' (first|(refine bx hs (k:=?_);intro b w hz hs)|refine Nx.h ?_|fail)
  have n5 := hs.new _ (List.mem_cons_self) rfl
  simp only at n5
  refine dn (k := ?_)
  refine tk 20 hX (k := ?_)
  refine en (k := ?_)
  repeat' (first|refine Nx.h ?_|fail)
  first | refine rt (hq := ?_) | refine rt' (hq := ?_)
  have ho4 := hs.onlyF [] (by simp [kq]) (by simp [D0])
  exact ⟨⟨_, _, rfl, ⟨t', m', Ft', rfl, hs.get At.head, k2.keep ho4 (by simp), (k3.only ho3).only ho4, h4, h5⟩, fun k hk => by
    simp only [List.mem_cons] at hk
    rcases hk with rfl | rfl | hk
    · omega
    · omega
    · have := hF k hk; omega⟩, hoA.step ho4 (by simp)⟩
set_option maxHeartbeats 4000000 in
theorem sclone_ret (sb : Nat) (s : Ss) (F : List Nat) (w0 : World) (h : SAt w0 sb s F) :
    Ret Tryz.prog 16 #[.pointer (some ⟨sb, 0, none⟩)] w0 fun v w' => (∃ s' F', v = .pointer (some ⟨s', 0, none⟩) ∧ SAt w' s' s F' ∧ ∀ k ∈ F', w0.heap.size ≤ k) ∧ Only [] w0 w' := by
  obtain ⟨qb, mb, Fq, rfl, h1, h2, h3, h4, h5⟩ := h
  have hs := (St.nil w0).track h1 (by simp)
  refine ret_of_xc Tryz.func16 (by kernel_rfl) rfl Tryz.ntmps16 rfl rfl rfl ?_
  repeat' (first|refine vs (k:=?_)|refine qRg ?_|refine Nx.h ?_|refine qCf ?_|fail)
  refine dr [] hs (k := ?_); intro hX w hs
  refine tk 0 hX (k := ?_)
  refine tk 1 hX (k := ?_)
  refine tk 2 hX (k := ?_)
  refine tk 3 hX (k := ?_)
  refine tk 5 hX (k := ?_)
  refine tk 6 hX (k := ?_)
  refine tk 7 hX (k := ?_)
  refine tk 8 hX (k := ?_)
  refine dt 4 hX (k := ?_)
  have ho := hs.onlyF [] (by simp [h1]) (by simp [D0])
  (with_reducible apply xs_call); exact rfl; exact rfl; exact qclone_ret qb s.q Fq _ (h3.only ho)
  rintro v w1 ⟨⟨q', Fq', rfl, k3, hF⟩, ho1⟩; replace hs := hs.call0 ho1; repeat' (first|refine Nx.h ?_|fail)
  have n1 := ho.size
  refine dn (k := ?_)
  refine dt 9 hX (k := ?_)
  have ho2 := hs.onlyF [] (by simp [h1]) (by simp [D0])
  (with_reducible apply xs_call); exact rfl; exact rfl; exact mcloneR_ret mb s.l.length _ _ (h2.keep ho2 (by simp))
  rintro v w2 ⟨⟨m', rfl, k2, hm⟩, ho3⟩; replace hs := hs.call0 ho3
  have n2 := ho2.size
  have l3 := k3.lt
  have hoA := hs.onlyF [] (by simp [h1]) (by simp [D0])
  have kq := hs.get At.head
  have n3 := hoA.size
  have n4 := ho3.size
  clear hs
  have hs := (St.nil w2).track kq (by simp)
  repeat' (first|refine Nx.h ?_|fail)
  refine dn (k := ?_)
  refine tk 10 hX (k := ?_)
  refine dt 11 hX (k := ?_)
  repeat' (first|(refine bx hs (k:=?_);intro b w hz hs)|refine Nx.h ?_|fail)
  have n5 := hs.new _ (List.mem_cons_self) rfl
  simp only at n5
  refine dn (k := ?_)
  refine tk 12 hX (k := ?_)
  refine en (k := ?_)
  repeat' (first|refine Nx.h ?_|fail)
  first | refine rt (hq := ?_) | refine rt' (hq := ?_)
  have ho4 := hs.onlyF [] (by simp [kq]) (by simp [D0])
  exact ⟨⟨_, _, rfl, ⟨q', m', Fq', rfl, hs.get At.head, k2.keep ho4 (by simp), (k3.only ho3).only ho4, fun hm' => by have := l3 _ hm'; omega, h5⟩, fun k hk => by
    simp only [List.mem_cons] at hk
    rcases hk with rfl | rfl | hk
    · omega
    · omega
    · have := hF k hk; omega⟩, hoA.step ho4 (by simp)⟩
end Go.Proofs.YtilajmcellffiaaGreatDoorX

namespace Go.Proofs.YtilajmcellffiaaGreatDoorX
open Go Go.RowKit
open IB (IT ITsAt flatT)
attribute [local irreducible] XS XC XA thenE blockE retE loopE loopS cutB cutN doneE SE
def SetAt (w : World) (sb : Nat) (A : As) (F : List Nat) : Prop := ∃ s, SAt w sb s F ∧ Rep s A
theorem SetAt.keepD {w w' : World} {sb : Nat} {A : As} {F G : List Nat} (h : SetAt w sb A F) (ho : Only G w w') (hd : ∀ k ∈ F, k ∉ G) : SetAt w' sb A F := by obtain ⟨s, h1, h2⟩ := h; exact ⟨s, h1.keepD ho hd, h2⟩
theorem SetAt.only {w w' : World} {sb : Nat} {A : As} {F : List Nat} (h : SetAt w sb A F) (ho : Only [] w w') : SetAt w' sb A F := h.keepD ho (by simp)
theorem SetAt.lt {w : World} {sb : Nat} {A : As} {F : List Nat} (h : SetAt w sb A F) : ∀ k ∈ F, k < w.heap.size := by obtain ⟨s, h1, h2⟩ := h; exact h1.lt
def QuAt (w : World) (qb : Nat) (A : As) : Prop := ∃ s F, QAt w qb s.q F ∧ Rep s A
theorem QuAt.only {w w' : World} {qb : Nat} {A : As} (h : QuAt w qb A) (ho : Only [] w w') : QuAt w' qb A := by obtain ⟨s, F, h1, h2⟩ := h; exact ⟨s, F, h1.only ho, h2⟩
theorem SetAt.opn {w : World} {sb : Nat} {A : As} {F : List Nat} (h : SetAt w sb A F) : ∃ qb mb, w.heap[sb]? = some (setO qb mb) ∧ QuAt w qb A := by
  obtain ⟨s, ⟨qb, mb, Fq, rfl, h1, h2, h3, h4⟩, hr⟩ := h
  exact ⟨qb, mb, h1, s, Fq, h3, hr⟩
theorem SetAt.rep {w : World} {sb : Nat} {A : As} {F : List Nat} (h : SetAt w sb A F) : ∃ s, Rep s A := by obtain ⟨s, h1, h2⟩ := h; exact ⟨s, h2⟩
theorem Rep.small {s : Ss} {A : As} (h : Rep s A) : s.l.length < 1000000 ∧ s.q.t.list.length + 1 ≤ 1000000 ∧ s.q.n < 1000000 ∧ A.l.length ≤ 1000000 := by
  have := h.le
  have := h.len
  have := h.q.n
  rw [h.l]; omega
def Left (w0 : World) (sb : Nat) (A : As) (F : List Nat) (w' : World) : Prop := ∃ F', SetAt w' sb A F' ∧ (∀ k ∈ F', k ∈ F ∨ w0.heap.size ≤ k) ∧ Only F w0 w'
theorem anew_ret (c : Int) (hc : U64 c) (w0 : World) : Ret Tryz.prog 13 #[.int .u64 c] w0 fun v w' => (∃ sb F, v = .pointer (some ⟨sb, 0, none⟩) ∧ SetAt w' sb ⟨[], c⟩ F ∧ ∀ k ∈ F, w0.heap.size ≤ k) ∧ Only [] w0 w' :=
  (snew_ret c hc w0).mono fun v w' ⟨⟨sb, F, h1, h2, h3⟩, ho⟩ => ⟨⟨sb, F, h1, ⟨_, h2, Rep.new c⟩, h3⟩, ho⟩
theorem aenter_ret (sb : Nat) (A : As) (F : List Nat) (r : RT) (w0 : World) (h : SetAt w0 sb A F) : Ret Tryz.prog 15 #[.pointer (some ⟨sb, 0, none⟩), rv r.1] w0 fun v w' => v = .int .i64 (entE A r) ∧ Left w0 sb (entA A r) F w' := by
  obtain ⟨s, h1, h2⟩ := h
  obtain ⟨k1, k2⟩ := h2.enter r
  rw [← k1]
  exact (enter_ret sb s F r w0 h1 h2.small.1 h2.small.2.1 h2.small.2.2.1).mono fun v w' ⟨e, F', a, b⟩ => ⟨e, F', ⟨_, a, k2⟩, b⟩
theorem areq_ret (sb : Nat) (A : As) (F : List Nat) (id : Int) (w0 : World) (h : SetAt w0 sb A F) (hid : In64 id) : Ret Tryz.prog 25 #[.pointer (some ⟨sb, 0, none⟩), .int .i64 id] w0 fun v w' => v = .tuple #[rv (getL A.l id), .bool (findR A.l id).isSome] ∧ Only [] w0 w' := by
  obtain ⟨s, h1, h2⟩ := h
  rw [← h2.l]
  exact req_ret sb s F id w0 h1 hid
set_option maxHeartbeats 4000000 in
theorem exit_none (sb : Nat) (s : Ss) (F : List Nat) (id : Int) (w0 : World) (h : SAt w0 sb s F) (hid : In64 id) (hlen : s.q.t.list.length ≤ 1000000) (hf : s.q.f id = none) :
    Ret Tryz.prog 14 #[.pointer (some ⟨sb, 0, none⟩), .int .i64 id] w0 fun v w' => v = .tuple #[rv .zero, .int .i64 14] ∧ ∃ F', SAt w' sb s F' ∧ (∀ k ∈ F', k ∈ F ∨ w0.heap.size ≤ k) ∧ Only F w0 w' := by
  have hS := h
  obtain ⟨qb, mb, Fq, rfl, h1, h2, h3, h4, h5⟩ := h
  have hs := (St.nil w0).track h1 (by simp)
  have hlt := hS.lt
  refine ret_of_xc Tryz.func14 (by kernel_rfl) rfl Tryz.ntmps14 rfl rfl rfl ?_
  refine xc_seq ?_
  refine xc_region ?_ ?_; exact rfl
  refine al hs (k := ?_); intro b4 w hz hs
  have g4 := hs.new (b4, true) (by simp) rfl
  simp only at g4
  repeat' (first|refine vs (k:=?_)|refine qRg ?_|refine Nx.h ?_|refine qCf ?_|fail)
  have ho := hs.onlyF [] (by simp [h1]) (by simp [D0])
  have hsz := ho.size
  have l4 := lt_of_block (hs.get At.head)
  (with_reducible apply xs_call); exact rfl; exact rfl; exact qleave_ret qb s.q Fq id _ (h3.only ho) hid hlen (fun a' e => by rw [hf] at e; cases e)
  rw [show leaveQ s.q id = s.q by unfold leaveQ; rw [hf], hf]
  rintro v w1 ⟨rfl, F', hQ, hF', ho1⟩
  have hno : ∀ k ∈ Fq, k ∉ [b4, sb] := fun k hk hm => by
    have hl := hlt k (by simp [hk])
    simp only [List.mem_cons, List.not_mem_nil, or_false] at hm
    rcases hm with rfl | rfl
    · omega
    · exact h3.not h1 (by decide) (by decide) (by decide) hk
  have hmF : mb ∉ F' := fun hm => by
    have := hlt mb (by simp)
    rcases hF' mb hm with h | h
    · exact h4 h
    · omega
  have hF2 : ∀ k ∈ sb :: mb :: F', k ∈ sb :: mb :: Fq ∨ w0.heap.size ≤ k := fun k hk => by
    simp only [List.mem_cons] at hk ⊢
    rcases hk with rfl | rfl | hk
    · simp
    · simp
    · rcases hF' k hk with h | h
      · simp [h]
      · exact .inr (by omega)
  have hM1 := (h2.keep ho (by simp)).keep ho1 h4
  have k4 := ho1.block (hs.get At.head) (fun hm => hno _ hm (by simp))
  have k6 := ho1.block (hs.get (At.tail At.head)) (fun hm => hno _ hm (by simp))
  have n46 : b4 ≠ sb := by have := hlt sb (by simp); omega
  have hoA : Only (sb :: mb :: Fq) w0 w1 := (ho.weaken (by simp)).step ho1 (fun k hk => .inl (by simp [hk]))
  clear hs
  have hs := ((St.nil w1).track k6 (by simp)).track k4 (by simpa using n46)
  repeat' (first|refine vs (k:=?_)|(refine stA hs (k:=?_);intro w hs)|(refine al hs (k:=?_);intro b w hz hs)|refine qRg ?_|refine Nx.h ?_|refine qCt ?_|fail)
  first | refine rt (hq := ?_) | refine rt' (hq := ?_)
  have hoC := hs.onlyF [b4] (by simp [k6]) (by simp [D0])
  have hs4 : b4 ∉ F' := fun hm => by
    rcases hF' b4 hm with h | h
    · exact hno b4 h (by simp)
    · omega
  exact ⟨rfl, _, ⟨qb, mb, F', rfl, hs.get (At.tail (At.tail At.head)), hM1.keep hoC (by simp; have := hlt mb (by simp); omega), hQ.keepD hoC (fun k hk hm => by obtain rfl := List.mem_singleton.1 hm; exact hs4 hk), hmF, h5⟩, hF2, hoA.step hoC (fun k hk => .inr (by obtain rfl := List.mem_singleton.1 hk; exact g4))⟩
theorem aexit_ret (sb : Nat) (A : As) (F : List Nat) (id : Int) (w0 : World) (h : SetAt w0 sb A F) (hid : In64 id) : Ret Tryz.prog 14 #[.pointer (some ⟨sb, 0, none⟩), .int .i64 id] w0 fun v w' => v = .tuple #[rv (getL A.l id), .int .i64 (errN (findR A.l id).isSome)] ∧ Left w0 sb (extA A id) F w' := by
  obtain ⟨s, h1, h2⟩ := h
  cases e : findR A.l id with
  | some a =>
    obtain ⟨k1, k2, k3⟩ := h2.exit e
    have := exit_ret sb s F id w0 h1 hid (by have := h2.small; omega) (itR a) k1 k2
    rw [h2.l] at this
    exact this.mono fun v w' ⟨e', F', a, b⟩ => ⟨e', F', ⟨_, a, k3⟩, b⟩
  | none =>
    have := exit_none sb s F id w0 h1 hid (by have := h2.small; omega) (by rw [h2.f, e]; rfl)
    refine this.mono fun v w' ⟨e', F', a, b⟩ => ⟨?_, F', ⟨_, a, ?_⟩, b⟩
    · rw [e']; unfold getL; rw [e]; rfl
    · unfold extA; rw [e]; exact h2
theorem arouse_ret (sb : Nat) (A : As) (F : List Nat) (id : Int) (b : Bool) (w0 : World) (h : SetAt w0 sb A F) (hid : In64 id) : Ret Tryz.prog 26 #[.pointer (some ⟨sb, 0, none⟩), .int .i64 id, .bool b] w0 fun v w' => v = .int .i64 (errN (findR A.l id).isSome) ∧ Left w0 sb (rouA A id b) F w' := by
  obtain ⟨s, h1, h2⟩ := h
  have := rouse_ret sb s F id b w0 h1 hid h2.small.1
  unfold rouseE at this
  rw [h2.l] at this
  exact this.mono fun v w' ⟨e, a, c⟩ => ⟨e, F, ⟨_, a, h2.rouse id b⟩, fun k hk => .inl hk, c⟩
theorem areqs_ret (sb : Nat) (A : As) (F : List Nat) (w0 : World) (h : SetAt w0 sb A F) : Ret Tryz.prog 18 #[.pointer (some ⟨sb, 0, none⟩)] w0 fun v w' => (∃ G, SlV w' 31 10 v A.l.length (flatR A.l) G ∧ ∀ k ∈ G, w0.heap.size ≤ k) ∧ Only [] w0 w' := by
  obtain ⟨s, h1, h2⟩ := h
  rw [← h2.l]
  exact reqs_ret sb s F w0 h1 (by have := h2.small; omega)
theorem aclone_ret (sb : Nat) (A : As) (F : List Nat) (w0 : World) (h : SetAt w0 sb A F) : Ret Tryz.prog 16 #[.pointer (some ⟨sb, 0, none⟩)] w0 fun v w' => (∃ s' F', v = .pointer (some ⟨s', 0, none⟩) ∧ SetAt w' s' A F' ∧ ∀ k ∈ F', w0.heap.size ≤ k) ∧ Only [] w0 w' := by
  obtain ⟨s, h1, h2⟩ := h
  exact (sclone_ret sb s F w0 h1).mono fun v w' ⟨⟨s', F', e, a, b⟩, ho⟩ => ⟨⟨s', F', e, ⟨s, a, h2⟩, b⟩, ho⟩
theorem alag_ret (qb : Nat) (A : As) (id : Int) (w0 : World) (h : QuAt w0 qb A) (hid : In64 id) : Ret Tryz.prog 27 #[.pointer (some ⟨qb, 0, none⟩), .int .i64 id] w0 fun v w' => v = .tuple #[wv (lagA A id), .int .i64 (errN (findR A.l id).isSome)] ∧ Only [] w0 w' := by
  obtain ⟨s, F, h1, h2⟩ := h
  rw [← h2.lag, ← h2.fs]
  exact qlag_ret qb s.q F id w0 h1 hid
theorem anow_ret (qb : Nat) (A : As) (w0 : World) (h : QuAt w0 qb A) : Ret Tryz.prog 19 #[.pointer (some ⟨qb, 0, none⟩)] w0 fun v w' => v = .int .u64 (nowA A) ∧ Only [] w0 w' := by
  obtain ⟨s, F, h1, h2⟩ := h
  rw [← h2.now]
  exact qnow_ret qb s.q F w0 h1
theorem alen_ret (qb : Nat) (A : As) (w0 : World) (h : QuAt w0 qb A) : Ret Tryz.prog 21 #[.pointer (some ⟨qb, 0, none⟩)] w0 fun v w' => v = .int .i64 (A.l.length : Nat) ∧ Only [] w0 w' := by
  obtain ⟨s, F, h1, h2⟩ := h
  rw [← h2.len]
  exact qlen_ret qb s.q F w0 h1
theorem asoonest_ret (qb : Nat) (A : As) (w0 : World) (h : QuAt w0 qb A) : Ret Tryz.prog 28 #[.pointer (some ⟨qb, 0, none⟩)] w0 fun v w' => v = .tuple #[iv (soonI A), .bool (soonA A).isSome] ∧ Only [] w0 w' := by
  obtain ⟨s, F, h1, h2⟩ := h
  rw [← h2.soon.1, ← h2.soon.2]
  exact qsoonest_ret qb s.q F w0 h1
end Go.Proofs.YtilajmcellffiaaGreatDoorX

namespace Go.Proofs.YtilajmcellffiaaGreatDoorX
open Go Go.RowKit
attribute [local irreducible] XS XC XA thenE blockE retE loopE loopS cutB cutN doneE SE
end Go.Proofs.YtilajmcellffiaaGreatDoorX

namespace Go.Proofs.YtilajmcellffiaaGreatDoorX
open Go Go.RowKit
section
variable {ops : Array Oper} {QE : Exit → Env → World → Prop} {n : Nat} {rest : List Oper} {env : Env} {w : World} {d : Option Nat} {ty : Nat} {pos : String} {aft : Array Edge} {g : Option (Nat × Bool)}
theorem rem8 {t t' : Nat} {x y : Operand} {a b : Int} (h0 : 0 ≤ a) (h2 : 0 < b) (hw : wantedE ops env g = true := by exact rfl) (hx : ev env x = .int .u8 a := by exact rfl) (hy : ev env y = .int .u8 b := by exact rfl)
    (k : XS Tryz.prog ops QE n rest (updO env d (.int .u8 (a % b))) w) : XS Tryz.prog ops QE n (⟨d, .binOp .rem t x y t', ty, pos, aft, g⟩ :: rest) env w :=
  xs_val hw (by rw [r_rem (by omega) hx hy, Int.tmod_eq_emod_of_nonneg h0]) k
end
end Go.Proofs.YtilajmcellffiaaGreatDoorX

namespace Go.Proofs.YtilajmcellffiaaGreatDoorX
open Go Go.RowKit
open IB (IT ITsAt flatT)
attribute [local irreducible] XS XC XA thenE blockE retE loopE loopS cutB cutN doneE SE
def rk : RT := ⟨⟨⟨⟨3, 0, 1⟩, 1, ⟨5242883, 0, 1⟩⟩, 5, 5, false⟩, by decide⟩
theorem k1 : newR ⟨3, 0, 1⟩ 1 5 = some rk.1 := by kernel_rfl
theorem k2 : enterE (newS 0) rk = 0 := by kernel_rfl
theorem k3 : (enterS (newS 0) rk).l = [rk] := by kernel_rfl
theorem k4 : (rouseS (enterS (newS 0) rk) 1 true).l = [wakeR rk true] := by kernel_rfl
theorem k5 : rouseE (enterS (newS 0) rk) 1 = 0 := by kernel_rfl
set_option maxHeartbeats 4000000 in
theorem awake16_ret (w0 : World) (ht : Pows w0) : Ret Tryz.prog 12 #[] w0 fun v w' => v = .bool true ∧ Only [] w0 w' := by
  have hs := St.nil w0
  refine ret_of_xc Tryz.func12 (by kernel_rfl) rfl Tryz.ntmps12 rfl rfl rfl ?_
  repeat' (first|refine vs (k:=?_)|refine qRg ?_|refine Nx.h ?_|fail)
  (with_reducible apply xs_call); exact rfl; exact rfl; exact snew_ret 0 (by decide) _
  rintro v w1 ⟨⟨sb, F0, rfl, hS, hF0⟩, ho1⟩
  have hF0 : ∀ k ∈ F0, w0.heap.size ≤ k := fun k hk => by have := hF0 k hk; have := hs.size; omega
  have hz1 := ho1.size
  have hq := hs.call0 ho1
  have ho1' := hq.only0 rfl
  clear hs hq
  have hs := St.nil w1
  repeat' (first|refine vs (k:=?_)|refine qRg ?_|refine Nx.h ?_|fail)
  (with_reducible apply xs_call); exact rfl; exact rfl; exact runnable_ret sb (newS 0) F0 _ hS (by decide)
  rw [show runN (newS 0).l = 0 from rfl]
  rintro v w2 ⟨rfl, ho2⟩; replace hs := hs.call0 ho2
  repeat' (first|refine vs (k:=?_)|refine qRg ?_|refine Nx.h ?_|refine qCf ?_|fail)
  (with_reducible apply xs_call); exact rfl; exact rfl; exact rnew_ret ⟨3, 0, 1⟩ 1 5 (by decide) (by decide) (by decide) _
  rw [k1]
  rintro v w' ⟨rfl, ho⟩; replace hs := hs.call0 ho; repeat' (first|refine vs (k:=?_)|(refine stA hs (k:=?_);intro w hs)|(refine al hs (k:=?_);intro b w hz hs)|refine qRg ?_|refine Nx.h ?_|fail)
  have hSw := hS.only (hs.only0 rfl)
  have hzw := hs.size
  (with_reducible apply xs_call); exact rfl; exact rfl; exact enter_ret sb (newS 0) F0 rk _ hSw (by decide) (by decide) (by decide)
  rw [k2]
  rintro v w3 ⟨rfl, F1, hS3, hF1, ho3⟩
  replace hs := hs.call ho3 (hSw.apart hs rfl) (by simp [D0])
  have hF1' : ∀ k ∈ F1, w0.heap.size ≤ k := fun k hk => by
    rcases hF1 k hk with h | h
    · exact hF0 k h
    · omega
  have hm : ∀ w', Only (F0 ++ []) w1 w' → Only [] w0 w' := fun w' ho => ho1'.step ho (fun k hk => by
    rw [List.append_nil] at hk
    exact .inr (hF0 k hk))
  have hm2 : ∀ w', Only (F1 ++ (F0 ++ [])) w1 w' → Only [] w0 w' := fun w' ho => ho1'.step ho (fun k hk => by
    rw [List.append_nil, List.mem_append] at hk
    rcases hk with hk | hk
    · exact .inr (hF1' k hk)
    · exact .inr (hF0 k hk))
  have e3 := k3
  have e4 := k4
  have e5 := k5
  generalize enterS (newS 0) rk = s1 at *
  repeat' (first|refine vs (k:=?_)|refine qRg ?_|refine Nx.h ?_|fail)
  (with_reducible apply xs_call); exact rfl; exact rfl; exact Awake15_ret _ (tab_only ht (hm _ hs.only))
  rintro v w4 ⟨rfl, ho4⟩; replace hS3 := hS3.only ho4; replace hs := hs.call0 ho4
  repeat' (first|refine vs (k:=?_)|fail)
  (with_reducible apply xs_call); exact rfl; exact rfl; exact runnable_ret sb s1 F1 _ hS3 (by rw [e3]; decide)
  rw [e3, show runN [rk] = 1 from rfl]
  rintro v w5 ⟨rfl, ho5⟩; replace hS3 := hS3.only ho5; replace hs := hs.call0 ho5
  repeat' (first|refine vs (k:=?_)|fail)
  (with_reducible apply xs_call); exact rfl; exact rfl; exact rouse_ret sb s1 F1 1 true _ hS3 (by decide) (by rw [e3]; decide)
  rw [e5]
  rintro v w6 ⟨rfl, hS6, ho6⟩
  replace hs := hs.call ho6 (hS3.apart hs rfl) (by simp [D0])
  repeat' (first|refine vs (k:=?_)|fail)
  (with_reducible apply xs_call); exact rfl; exact rfl; exact runnable_ret sb (rouseS s1 1 true) F1 _ hS6 (by rw [e4]; decide)
  rw [e4, show runN [wakeR rk true] = 0 from rfl]
  rintro v w7 ⟨rfl, ho7⟩; replace hs := hs.call0 ho7
  repeat' (first|refine vs (k:=?_)|refine Nx.h ?_|fail)
  first | refine rt (hq := ?_) | refine rt' (hq := ?_)
  exact ⟨rfl, hm2 _ hs.only⟩
end Go.Proofs.YtilajmcellffiaaGreatDoorX

namespace Go.Proofs.YtilajmcellffiaaGreatDoorX
open Go Go.RowKit
attribute [local irreducible] XS XC XA thenE blockE retE loopE loopS cutB cutN doneE SE
theorem SetAt.mem {w : World} {sb : Nat} {A : As} {F : List Nat} (h : SetAt w sb A F) : sb ∈ F := by
  obtain ⟨s, ⟨qb, mb, Fq, rfl, _⟩, _⟩ := h
  simp
theorem left_only {w5 w w' : World} {sb : Nat} {A : As} {F : List Nat} (h : Left w sb A F w') (ho : Only [] w5 w) (hF : ∀ k ∈ F, w5.heap.size ≤ k) : ∃ F', SetAt w' sb A F' ∧ (∀ k ∈ F', w5.heap.size ≤ k) ∧ Only [] w5 w' := by
  obtain ⟨F', h1, h2, h3⟩ := h
  have hz := ho.size
  exact ⟨F', h1, fun k hk => by rcases h2 k hk with h | h; exact hF k h; omega, ho.step h3 (fun k hk => .inr (hF k hk))⟩
end Go.Proofs.YtilajmcellffiaaGreatDoorX
