/- Plain: long division by two digits (Knuth's D), and the length of a number in bits. No program stands here. -/
import Derived.Test.YtkkelelmdbemmaaDoorX
set_option linter.unusedVariables false
namespace Go.Proofs.YtkkelelmdbemmaaDoorX

/-- A guess of a digit, not too small: u the two upper digits, v the next, y = c * 2^32 + d the divisor. -/
structure Kd (u v c d y q r : Int) : Prop where
  sum : q * c + r = u
  q0 : 0 ≤ q
  q1 : q ≤ 4294967297
  r0 : 0 ≤ r
  r1 : r < 4294967296
  up : u * 4294967296 + v < (q + 1) * y
structure KdOk (u v c d y : Int) : Prop where
  y_eq : y = c * 4294967296 + d
  c0 : 2147483648 ≤ c
  c1 : c < 4294967296
  d0 : 0 ≤ d
  d1 : d < 4294967296
  u0 : 0 ≤ u
  u1 : u < y
  v0 : 0 ≤ v
  v1 : v < 4294967296
def KdFin (u v y q : Int) : Prop := 0 ≤ q ∧ q * y ≤ u * 4294967296 + v ∧ u * 4294967296 + v < (q + 1) * y
variable {u v c d y q r : Int}
theorem kd_init (h : KdOk u v c d y) : Kd u v c d y (u / c) (u - u / c * c) := by
  obtain ⟨hy, c0, c1, d0, d1, u0, u1, v0, v1⟩ := h
  have hm := Int.mul_ediv_add_emod u c
  have h1 := Int.emod_nonneg u (show c ≠ 0 by omega)
  have h2 := Int.emod_lt_of_pos u (show 0 < c by omega)
  have h3 : 0 ≤ u / c := Int.ediv_nonneg u0 (by omega)
  have h4 : u / c * c = c * (u / c) := Int.mul_comm _ _
  generalize u / c = q at *
  generalize u % c = m at *
  have hq : q ≤ 4294967297 := by
    rcases Int.lt_or_le q 4294967298 with h | h
    · omega
    · have : c * 4294967298 ≤ c * q := Int.mul_le_mul_of_nonneg_left h (by omega)
      omega
  refine ⟨by omega, h3, hq, by omega, by omega, ?_⟩
  have e : (q + 1) * y = (c * q + c) * 4294967296 + (q + 1) * d := by subst hy; grind
  have : 0 ≤ (q + 1) * d := Int.mul_nonneg (by omega) d0
  omega
theorem kd_stop (h : KdOk u v c d y) (k : Kd u v c d y q r) (h2 : q * d ≤ 4294967296 * r + v) : KdFin u v y q := by
  obtain ⟨hy, c0, c1, d0, d1, u0, u1, v0, v1⟩ := h
  obtain ⟨s, q0, q1, r0, r1, up⟩ := k
  have e : q * y = q * c * 4294967296 + q * d := by subst hy; grind
  exact ⟨q0, by omega, up⟩
theorem kd_step (h : KdOk u v c d y) (k : Kd u v c d y q r) (h2 : 4294967296 ≤ q ∨ 4294967296 * r + v < q * d) :
    1 ≤ q ∧ (r + c < 4294967296 → Kd u v c d y (q - 1) (r + c)) ∧ (4294967296 ≤ r + c → KdFin u v y (q - 1)) := by
  obtain ⟨hy, c0, c1, d0, d1, u0, u1, v0, v1⟩ := h
  obtain ⟨s, q0, q1, r0, r1, up⟩ := k
  have hq : 1 ≤ q := by
    rcases h2 with h2 | h2
    · omega
    · rcases Int.lt_or_le q 1 with h | h
      · have : q = 0 := by omega
        subst this; omega
      · exact h
  have e : q * y = q * c * 4294967296 + q * d := by subst hy; grind
  have hup : u * 4294967296 + v < q * y := by
    rcases h2 with h2 | h2
    · have : 4294967296 * y ≤ q * y := Int.mul_le_mul_of_nonneg_right h2 (by omega)
      omega
    · omega
  have e1 : (q - 1) * c + (r + c) = u := by rw [Int.sub_mul]; omega
  refine ⟨hq, fun hr => ⟨e1, by omega, by omega, by omega, hr, by rw [show q - 1 + 1 = q by omega]; exact hup⟩, fun hr => ⟨by omega, ?_, by rw [show q - 1 + 1 = q by omega]; exact hup⟩⟩
  have e2 : (q - 1) * y = (q - 1) * c * 4294967296 + (q - 1) * d := by subst hy; grind
  have : (q - 1) * d ≤ 4294967296 * 4294967295 := Int.mul_le_mul (by omega) (by omega) d0 (by omega)
  omega
theorem kd_fin (h : KdOk u v c d y) (k : KdFin u v y q) : q = (u * 4294967296 + v) / y ∧ q < 4294967296 ∧ u * 4294967296 + v - q * y = (u * 4294967296 + v) % y ∧ 0 ≤ u * 4294967296 + v - q * y ∧ u * 4294967296 + v - q * y < y := by
  obtain ⟨hy, c0, c1, d0, d1, u0, u1, v0, v1⟩ := h
  obtain ⟨q0, k1, k2⟩ := k
  have hy0 : 0 < y := by omega
  have e : (q + 1) * y = q * y + y := by rw [Int.add_mul, Int.one_mul]
  have h1 : 0 ≤ u * 4294967296 + v - q * y := by omega
  have h2 : u * 4294967296 + v - q * y < y := by omega
  have hq : q = (u * 4294967296 + v) / y := by
    have : u * 4294967296 + v = (u * 4294967296 + v - q * y) + q * y := by omega
    rw [this, Int.add_mul_ediv_right _ _ (by omega), Int.ediv_eq_zero_of_lt h1 h2]; omega
  refine ⟨hq, ?_, ?_, h1, h2⟩
  · rcases Int.lt_or_le q 4294967296 with h | h
    · exact h
    · have : 4294967296 * y ≤ q * y := Int.mul_le_mul_of_nonneg_right h (by omega)
      omega
  · have := Int.mul_ediv_add_emod (u * 4294967296 + v) y
    rw [← hq, Int.mul_comm] at this
    omega

theorem kd_end {T y P Y Q R : Int} (hP : 0 < P) (hy : 0 < y) (hY : y * P = Y) (h : T * P = Q * Y + R) (h0 : 0 ≤ R) (h1 : R < Y) : Q = T / y ∧ R / P = T % y := by
  subst hY
  have h2 : R = (T - Q * y) * P := by grind
  have h3 : R / P = T - Q * y := by rw [h2, Int.mul_ediv_cancel _ (by omega)]
  have h4 : 0 ≤ T - Q * y := by rw [← h3]; exact Int.ediv_nonneg h0 (by omega)
  have h5 : T - Q * y < y := by
    rw [h2] at h1
    exact Int.lt_of_mul_lt_mul_right h1 (by omega)
  have hq : Q = T / y := by
    have : T = (T - Q * y) + Q * y := by omega
    rw [this, Int.add_mul_ediv_right _ _ (by omega), Int.ediv_eq_zero_of_lt h4 h5]; omega
  refine ⟨hq, ?_⟩
  rw [h3, hq]
  have := Int.mul_ediv_add_emod T y
  rw [Int.mul_comm] at this
  omega
/-- Shifted two-word numbers. -/
theorem kd_open {hi lo y P Q : Int} (hP : 0 < P) (hQ : 0 < Q) (hPQ : P * Q = 18446744073709551616) (h0 : 0 ≤ hi) (h1 : hi < y) (h2 : 0 ≤ lo) (h3 : lo < 18446744073709551616) :
    0 ≤ lo / Q ∧ lo / Q < P ∧ hi * P + lo / Q < y * P ∧ (hi * 18446744073709551616 + lo) * P = (hi * P + lo / Q) * 18446744073709551616 + lo * P % 18446744073709551616 := by
  have e1 := Int.mul_ediv_add_emod lo Q
  have e2 := Int.emod_nonneg lo (show Q ≠ 0 by omega)
  have e3 := Int.emod_lt_of_pos lo hQ
  have e4 : 0 ≤ lo / Q := Int.ediv_nonneg h2 (by omega)
  have e5 : lo / Q < P := by rw [Int.ediv_lt_iff_lt_mul hQ, hPQ]; exact h3
  have e6 : hi * P + P ≤ y * P := by
    have : (hi + 1) * P ≤ y * P := Int.mul_le_mul_of_nonneg_right (by omega) (by omega)
    rw [Int.add_mul, Int.one_mul] at this
    exact this
  refine ⟨e4, e5, by omega, ?_⟩
  have e7 : lo * P = lo / Q * 18446744073709551616 + lo % Q * P := by
    generalize lo / Q = B at *
    generalize lo % Q = C at *
    rw [← hPQ, ← e1]; grind
  have e8 : lo % Q * P < 18446744073709551616 := by
    have := Int.mul_lt_mul_of_pos_right e3 hP
    rw [Int.mul_comm Q P, hPQ] at this
    exact this
  have e9 : 0 ≤ lo % Q * P := Int.mul_nonneg e2 (by omega)
  have e10 : (hi * 18446744073709551616 + lo) * P = hi * P * 18446744073709551616 + lo * P := by grind
  rw [e10, e7]
  generalize lo / Q = B at *
  generalize lo % Q * P = C at *
  generalize hi * P = A at *
  omega

/-! ### Bits -/
def len8 (k : Nat) : Nat := if k = 0 then 0 else Nat.log2 k + 1
set_option maxRecDepth 100000 in
theorem len8_ok : ∀ k < 256, k < 2 ^ len8 k ∧ (0 < k → 2 ^ len8 k ≤ 2 * k) ∧ len8 k ≤ 8 := by decide
def BitLen (x L : Int) (m : Nat) : Prop := ∃ l : Nat, L = l ∧ l ≤ m ∧ x < 2 ^ l ∧ (0 < x → (2 : Int) ^ l ≤ 2 * x)
theorem bl_8 {x : Int} (h0 : 0 ≤ x) (h1 : x < 256) : BitLen x ((len8 x.toNat : Nat) : Int) 8 := by
  obtain ⟨n, rfl⟩ := Int.eq_ofNat_of_zero_le h0
  obtain ⟨h2, h3, h4⟩ := len8_ok n (by omega)
  refine ⟨_, rfl, h4, ?_, fun h => ?_⟩
  · simpa using (by exact_mod_cast h2 : ((n : Nat) : Int) < ((2 ^ len8 n : Nat) : Int))
  · have := h3 (by omega)
    simpa using (by exact_mod_cast this : ((2 ^ len8 n : Nat) : Int) ≤ ((2 * n : Nat) : Int))
theorem bl_shift {x L : Int} {m : Nat} (k : Nat) {p : Int} (hp : (2 : Int) ^ k = p) (h : BitLen (x / p) L m) (hx : 0 < x / p) : BitLen x (L + k) (m + k) := by
  obtain ⟨l, rfl, h1, h2, h3⟩ := h
  have hp0 : 0 < p := by rw [← hp]; exact Int.pow_pos (by decide)
  have h3 := h3 hx
  have hx0 : 0 < x := by
    rcases Int.lt_or_le 0 x with h | h
    · exact h
    · have := Int.ediv_le_ediv hp0 h
      simp at this
      omega
  refine ⟨l + k, by simp, by omega, ?_, fun _ => ?_⟩
  · rw [Int.pow_add, hp]
    exact (Int.ediv_lt_iff_lt_mul hp0).1 h2
  · rw [Int.pow_add, hp]
    have h5 := Int.mul_ediv_add_emod x p
    have h6 := Int.emod_nonneg x (show p ≠ 0 by omega)
    have h7 : (2 : Int) ^ l * p ≤ 2 * (x / p) * p := Int.mul_le_mul_of_nonneg_right h3 (by omega)
    have h8 : 2 * (x / p) * p = 2 * (p * (x / p)) := by grind
    omega
theorem BitLen.mono {x L : Int} {m m' : Nat} (h : BitLen x L m) (hm : m ≤ m') : BitLen x L m' := by
  obtain ⟨l, h0, h1, h2⟩ := h
  exact ⟨l, h0, by omega, h2⟩
end Go.Proofs.YtkkelelmdbemmaaDoorX
