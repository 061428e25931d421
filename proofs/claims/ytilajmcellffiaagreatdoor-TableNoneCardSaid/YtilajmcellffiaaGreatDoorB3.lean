/- A part of the proof: what its functions compute. -/
import Derived.Test.YtilajmcellffiaaGreatDoorB2
set_option linter.unusedVariables false
set_option linter.unusedSimpArgs false
set_option maxRecDepth 100000
namespace Go.Proofs.YtilajmcellffiaaGreatDoorX
open Go Go.RowKit
attribute [local irreducible] XS XC XA thenE blockE retE loopE loopS cutB cutN doneE SE
structure Pt where
  t : Int
  r : Int
  w : Int
deriving DecidableEq
abbrev Pt.cells (p : Pt) : List Value := [.int .u64 p.t, .int .u32 p.r, .int .u32 p.w]
def pv (p : Pt) : Value := .agg #[.int .u64 p.t, .int .u32 p.r, .int .u32 p.w]
def U64 (x : Int) : Prop := 0 ≤ x ∧ x < 18446744073709551616
def U32 (x : Int) : Prop := 0 ≤ x ∧ x < 4294967296
instance (x : Int) : Decidable (U64 x) := by unfold U64; infer_instance
instance (x : Int) : Decidable (U32 x) := by unfold U32; infer_instance
def Pt.In (p : Pt) : Prop := U64 p.t ∧ U32 p.r ∧ U32 p.w
instance (p : Pt) : Decidable p.In := by unfold Pt.In; infer_instance
def sn (t u : Int) : Int := (t - u + 9223372036854775808) % 18446744073709551616 - 9223372036854775808
theorem sn_rng (t u : Int) : -9223372036854775808 ≤ sn t u ∧ sn t u < 9223372036854775808 := by unfold sn; omega
theorem sn_in (t u : Int) : In64 (sn t u) := sn_rng t u
def lat (t d : Int) : Int := (t + d) % 18446744073709551616
theorem lat_in (t d : Int) : U64 (lat t d) := by unfold lat U64; omega
theorem int_cong {k : IntKind} {a b : Int} (h : a = b) : packed [Value.int k a] = .int k b := by rw [h]; rfl
theorem since_ret (t u : Int) (w0 : World) : Ret Tryz.prog 140 #[.int .u64 t, .int .u64 u] w0 fun v w' => v = .int .i64 (sn t u) ∧ Only [] w0 w' := by
  have hs := St.nil w0
  refine ret_of_xc Tryz.func140 (by kernel_rfl) rfl Tryz.ntmps140 rfl rfl rfl ?_
  repeat' (first|refine vs (k:=?_)|refine qRg ?_|refine Nx.h ?_|fail)
  first | refine rt (hq := ?_) | refine rt' (hq := ?_)
  refine ⟨int_cong ?_, hs.only0 rfl⟩
  simp only [wrap_u64, wrap_i64, sn]; omega
theorem vadd_ret (t d : Int) (w0 : World) : Ret Tryz.prog 116 #[.int .u64 t, .int .i64 d] w0 fun v w' => v = .int .u64 (lat t d) ∧ Only [] w0 w' := by
  have hs := St.nil w0
  refine ret_of_xc Tryz.func116 (by kernel_rfl) rfl Tryz.ntmps116 rfl rfl rfl ?_
  repeat' (first|refine vs (k:=?_)|refine qRg ?_|refine Nx.h ?_|fail)
  first | refine rt (hq := ?_) | refine rt' (hq := ?_)
  refine ⟨int_cong ?_, hs.only0 rfl⟩
  simp only [wrap_u64, wrap_i64, lat]; omega
def mayW (w : Int) : Bool := decide (1 ≤ w) && decide (w ≤ 1048576)
theorem weight_ret (w : Int) (w0 : World) : Ret Tryz.prog 180 #[.int .u32 w] w0 fun v w' => v = .bool (mayW w) ∧ Only [] w0 w' := by
  have hs := St.nil w0
  refine ret_of_xc Tryz.func180 (by kernel_rfl) rfl Tryz.ntmps180 rfl rfl rfl ?_
  repeat' (first|refine vs (k:=?_)|refine ps (k:=?_)|refine qRg ?_|refine Nx.h ?_|((with_reducible apply xs_guard);exact rfl;exact rfl;intro c hc;(fail_if_success have:true=c:=hc);(fail_if_success have:false=c:=hc);cases c)|fail)
  all_goals (first | refine rt (hq := ?_) | refine rt' (hq := ?_))
  all_goals refine ⟨?_, hs.only0 rfl⟩
  · unfold mayW; have := of_decide_eq_false hc; simp only [packed]; congr 1; simp; omega
  · unfold mayW; have := of_decide_eq_true hc; simp only [packed]; congr 1; simp; omega
def Pt.right (p : Pt) : Bool := mayW p.w && decide (p.r < p.w)
theorem pright_ret (p : Pt) (w0 : World) : Ret Tryz.prog 141 #[pv p] w0 fun v w' => v = .bool p.right ∧ Only [] w0 w' := by
  have hs := St.nil w0
  refine ret_of_xc Tryz.func141 (by kernel_rfl) rfl Tryz.ntmps141 rfl rfl rfl ?_
  repeat' (first|refine vs (k:=?_)|(refine bx hs (k:=?_);intro b w hz hs)|refine qRg ?_|refine Nx.h ?_|fail)
  (with_reducible apply xs_call); exact rfl; exact rfl; exact weight_ret _ _
  rintro v w' ⟨rfl, ho⟩; replace hs := hs.call0 ho; repeat' (first|refine vs (k:=?_)|refine ps (k:=?_)|refine Nx.h ?_|((with_reducible apply xs_guard);exact rfl;exact rfl;intro c hc;(fail_if_success have:true=c:=hc);(fail_if_success have:false=c:=hc);cases c)|fail)
  all_goals (first | refine rt (hq := ?_) | refine rt' (hq := ?_))
  all_goals refine ⟨?_, hs.only0 rfl⟩
  · unfold Pt.right; rw [hc]; rfl
  · unfold Pt.right; rw [hc]; rfl
theorem mul_rng {w s W S : Int} (h0 : 0 ≤ w) (h1 : w ≤ W) (h2 : -S ≤ s) (h3 : s ≤ S) : -(W * S) ≤ w * s ∧ w * s ≤ W * S := by
  have hS : 0 ≤ S := by omega
  have a : w * S ≤ W * S := Int.mul_le_mul_of_nonneg_right h1 hS
  have b : w * s ≤ w * S := Int.mul_le_mul_of_nonneg_left h3 h0
  have c : w * (-S) ≤ w * s := Int.mul_le_mul_of_nonneg_left h2 h0
  rw [Int.mul_neg] at c
  omega
theorem u64_id {x : Int} (h : U64 x) : IntKind.u64.wrap x = x := by rw [wrap_u64]; unfold U64 at h; omega
theorem u64_of32 {x : Int} (h : U32 x) : IntKind.u64.wrap x = x := by rw [wrap_u64]; unfold U32 at h; omega
theorem wrap_u32 (n : Int) : IntKind.u32.wrap n = n % 4294967296 := by simp [IntKind.wrap, IntKind.signed, IntKind.bits]
theorem u32_id {x : Int} (h : U32 x) : IntKind.u32.wrap x = x := by rw [wrap_u32]; unfold U32 at h; omega
theorem ofU32_ret (x : Int) (h : U32 x) (w0 : World) : Ret Tryz.prog 202 #[.int .u64 (IntKind.u64.wrap x)] w0 fun v w' => v = wv x ∧ Only [] w0 w' := by
  rw [u64_of32 h]; unfold U32 at h; exact ofU_ret x (by omega) (by omega) w0
def dist (p : Pt) (base : Int) : Int := p.w * sn p.t base + p.r
theorem dist_rng {p : Pt} (h : p.In) (base : Int) : -(4294967296 * 9223372036854775808) ≤ p.w * sn p.t base ∧ p.w * sn p.t base ≤ 4294967296 * 9223372036854775808 :=
  mul_rng h.2.2.1 (Int.le_of_lt h.2.2.2) (by have := sn_rng p.t base; omega) (by have := sn_rng p.t base; omega)
theorem dist_in {p : Pt} (h : p.In) (base : Int) : InW (dist p base) := by
  have h1 := dist_rng h base
  obtain ⟨_, ⟨h2, h3⟩, _⟩ := h
  unfold dist InW; omega
theorem tell_in {x : Int} (h : InW x) : tellV x = .tuple #[wv x, .bool true] := if_pos h
theorem dist_ret (p : Pt) (base : Int) (h : p.In) (w0 : World) : Ret Tryz.prog 157 #[pv p, .int .u64 base] w0 fun v w' => v = wv (dist p base) ∧ Only [] w0 w' := by
  have h1 := dist_rng h base
  have h4 := dist_in h base
  obtain ⟨⟨ht0, ht1⟩, ⟨hr0, hr1⟩, hw0, hw1⟩ := h
  have h2 := sn_rng p.t base
  have hs := St.nil w0
  refine ret_of_xc Tryz.func157 (by kernel_rfl) rfl Tryz.ntmps157 rfl rfl rfl ?_
  repeat' (first|(refine al hs (k:=?_);intro b w hz hs)|(refine bx hs (k:=?_);intro b w hz hs)|refine qRg ?_|refine Nx.h ?_|fail)
  refine dr [] hs (k := ?_); intro hX w hs
  refine tk 0 hX (k := ?_)
  refine tk 1 hX (k := ?_)
  refine tk 2 hX (k := ?_)
  refine tk 4 hX (k := ?_)
  refine tk 5 hX (k := ?_)
  refine tk 6 hX (k := ?_)
  refine pd0 12 5 hs (k := ?_); intro f X w hp; have hs := hp.st
  apply xa_pend 3 12 (f := f) (X := X) hX hp; exact rfl; exact rfl; (first | (apply makes_alloc tabOk; exact rfl) | (apply makes_slice tabOk; exact rfl; exact rfl; exact rfl; exact rfl; exact rfl; (intro X; ((repeat (first | exact Bld.nil | (apply Bld.one; exact rfl; (conv => lhs; whnf); exact rfl; (repeat (first | exact PutL.nil | apply PutL.skip | apply PutL.cons))) | (apply Bld.agg; exact rfl; exact rfl; exact rfl; (repeat (first | exact PutL.nil | apply PutL.skip | apply PutL.cons))))))))); kernel_rfl; kernel_rfl; kernel_rfl; kernel_rfl; (intro X Y; (repeat (first | exact pgg_base | refine pgg_step ?_ (by exact rfl)))); (intro w' hs; ((first | exact se_hold hs.hold | exact se_hold (hold_sim hs.hold rfl) | exact se_hold (hold_sim hs.hold.tail rfl) | exact se_hold (hR hs rfl) | exact se_hold hs.hold.tail | exact se_hold hs.hold.tail.tail | exact se_hold hs.hold.tail.tail.tail | exact se_done rfl))); intro f X w hp; have hs := hp.st
  (with_reducible apply xs_call); exact rfl; exact rfl; exact ofU32_ret p.w ⟨hw0, hw1⟩ _
  rintro v w' ⟨rfl, ho⟩; replace hp := hp.only ho; replace hs := hp.st; repeat' (first|refine Nx.h ?_|fail)
  refine dn (k := ?_)
  apply xa_pend 7 12 (f := f) (X := X) hX hp; exact rfl; exact rfl; (first | (apply makes_alloc tabOk; exact rfl) | (apply makes_slice tabOk; exact rfl; exact rfl; exact rfl; exact rfl; exact rfl; (intro X; ((repeat (first | exact Bld.nil | (apply Bld.one; exact rfl; (conv => lhs; whnf); exact rfl; (repeat (first | exact PutL.nil | apply PutL.skip | apply PutL.cons))) | (apply Bld.agg; exact rfl; exact rfl; exact rfl; (repeat (first | exact PutL.nil | apply PutL.skip | apply PutL.cons))))))))); kernel_rfl; kernel_rfl; kernel_rfl; kernel_rfl; (intro X Y; (repeat (first | exact pgg_base | refine pgg_step ?_ (by exact rfl)))); (intro w' hs; ((first | exact se_hold hs.hold | exact se_hold (hold_sim hs.hold rfl) | exact se_hold (hold_sim hs.hold.tail rfl) | exact se_hold (hR hs rfl) | exact se_hold hs.hold.tail | exact se_hold hs.hold.tail.tail | exact se_hold hs.hold.tail.tail.tail | exact se_done rfl))); intro f X w hp; have hs := hp.st
  (with_reducible apply xs_call); exact rfl; exact rfl; exact since_ret p.t base _
  rintro v w' ⟨rfl, ho⟩; replace hp := hp.only ho; replace hs := hp.st; repeat' (first|refine Nx.h ?_|fail)
  refine dn (k := ?_)
  apply xa_pend 8 12 (f := f) (X := X) hX hp; exact rfl; exact rfl; (first | (apply makes_alloc tabOk; exact rfl) | (apply makes_slice tabOk; exact rfl; exact rfl; exact rfl; exact rfl; exact rfl; (intro X; ((repeat (first | exact Bld.nil | (apply Bld.one; exact rfl; (conv => lhs; whnf); exact rfl; (repeat (first | exact PutL.nil | apply PutL.skip | apply PutL.cons))) | (apply Bld.agg; exact rfl; exact rfl; exact rfl; (repeat (first | exact PutL.nil | apply PutL.skip | apply PutL.cons))))))))); kernel_rfl; kernel_rfl; kernel_rfl; kernel_rfl; (intro X Y; (repeat (first | exact pgg_base | refine pgg_step ?_ (by exact rfl)))); (intro w' hs; ((first | exact se_hold hs.hold | exact se_hold (hold_sim hs.hold rfl) | exact se_hold (hold_sim hs.hold.tail rfl) | exact se_hold (hR hs rfl) | exact se_hold hs.hold.tail | exact se_hold hs.hold.tail.tail | exact se_hold hs.hold.tail.tail.tail | exact se_done rfl))); intro f X w hp; have hs := hp.st
  (with_reducible apply xs_call); exact rfl; exact rfl; exact mul_ret p.w (sn p.t base) (by unfold InW; omega) (by omega) (by omega) _
  rw [tell_in (by unfold InW; omega)]
  rintro v w' ⟨rfl, ho⟩; replace hp := hp.only ho; replace hs := hp.st; repeat' (first|refine Nx.h ?_|fail)
  refine dn (k := ?_)
  refine tk 9 hX (hc := by cases f <;> kernel_rfl) (k := ?_)
  refine tk 10 hX (hc := by cases f <;> kernel_rfl) (k := ?_)
  refine tk 11 hX (hc := by cases f <;> kernel_rfl) (k := ?_)
  apply xa_pendE 12 (f := f) (X := X) hX hp; exact rfl; (first | (apply makes_alloc tabOk; exact rfl) | (apply makes_slice tabOk; exact rfl; exact rfl; exact rfl; exact rfl; exact rfl; (intro X; ((repeat (first | exact Bld.nil | (apply Bld.one; exact rfl; (conv => lhs; whnf); exact rfl; (repeat (first | exact PutL.nil | apply PutL.skip | apply PutL.cons))) | (apply Bld.agg; exact rfl; exact rfl; exact rfl; (repeat (first | exact PutL.nil | apply PutL.skip | apply PutL.cons))))))))); kernel_rfl; kernel_rfl; (intro X Y; (repeat (first | exact pgg_base | refine pgg_step ?_ (by exact rfl)))); (intro w' hs; ((first | exact se_hold hs.hold | exact se_hold (hold_sim hs.hold rfl) | exact se_hold (hold_sim hs.hold.tail rfl) | exact se_hold (hR hs rfl) | exact se_hold hs.hold.tail | exact se_hold hs.hold.tail.tail | exact se_hold hs.hold.tail.tail.tail | exact se_done rfl))); intro b w hI hs
  refine dt 13 hX (k := ?_)
  repeat' (first|(refine stA hs (k:=?_);intro w hs)|refine Nx.h ?_|fail)
  refine dn (k := ?_)
  refine tk 14 hX (k := ?_)
  refine en (k := ?_)
  repeat' (first|refine Nx.h ?_|fail)
  refine dr [9] hs (k := ?_); intro hX w hs
  refine tk 0 hX (k := ?_)
  refine tk 1 hX (k := ?_)
  refine tk 2 hX (k := ?_)
  refine tk 3 hX (k := ?_)
  refine dt 4 hX (k := ?_)
  (with_reducible apply xs_call); exact rfl; exact rfl; exact ofU32_ret p.r ⟨hr0, hr1⟩ _
  rintro v w' ⟨rfl, ho⟩; replace hs := hs.call0 ho; repeat' (first|refine Nx.h ?_|fail)
  refine dn (k := ?_)
  refine dt 5 hX (k := ?_)
  (with_reducible apply xs_call); exact rfl; exact rfl; exact add_ret (p.w * sn p.t base) p.r (by unfold InW; omega) (by unfold InW; omega) _
  rw [tell_in (x := p.w * sn p.t base + p.r) h4]
  rintro v w' ⟨rfl, ho⟩; replace hs := hs.call0 ho; repeat' (first|refine Nx.h ?_|fail)
  refine dn (k := ?_)
  refine tk 6 hX (k := ?_)
  refine tk 7 hX (k := ?_)
  refine tk 8 hX (k := ?_)
  refine dt 9 hX (k := ?_)
  repeat' (first|(refine stA hs (k:=?_);intro w hs)|refine Nx.h ?_|fail)
  refine dn (k := ?_)
  refine en (k := ?_)
  repeat' (first|refine vs (k:=?_)|(refine stA hs (k:=?_);intro w hs)|refine qRg ?_|refine Nx.h ?_|fail)
  first | refine rt (hq := ?_) | refine rt' (hq := ?_)
  exact ⟨rfl, hs.only0 rfl⟩
theorem add_ok (x y : Int) (hx : InW x) (hy : InW y) (h : InW (x + y)) (w0 : World) : Ret Tryz.prog 183 #[wv x, wv y] w0 fun v w' => v = .tuple #[wv (x + y), .bool true] ∧ Only [] w0 w' := by
  have := add_ret x y hx hy w0; rwa [tell_in h] at this
theorem mul_ok (x n : Int) (hx : InW x) (hn0 : -9223372036854775808 ≤ n) (hn1 : n < 9223372036854775808) (h : InW (x * n)) (w0 : World) : Ret Tryz.prog 156 #[wv x, .int .i64 n] w0 fun v w' => v = .tuple #[wv (x * n), .bool true] ∧ Only [] w0 w' := by
  have := mul_ret x n hx hn0 hn1 w0; rwa [tell_in h] at this
theorem div_ok (x y : Int) (hx : InW x) (hy0 : 0 < y) (hy1 : y < 18446744073709551616) (w0 : World) : Ret Tryz.prog 114 #[wv x, .int .u64 y] w0 fun v w' => v = .tuple #[wv (x / y), .int .u64 (x % y), .bool true] ∧ Only [] w0 w' := by
  have := div_ret x y hx (by omega) hy1 w0; unfold divV at this; rwa [if_neg (by omega)] at this
theorem div_in {x y : Int} (hx : InW x) (hy : 0 < y) : InW (x / y) := by
  obtain ⟨h1, h2⟩ := hx
  unfold InW
  constructor
  · rw [Int.le_ediv_iff_mul_le hy]
    have : -170141183460469231731687303715884105728 * y ≤ -170141183460469231731687303715884105728 := by omega
    omega
  · rw [Int.ediv_lt_iff_lt_mul hy]
    have : 170141183460469231731687303715884105728 ≤ 170141183460469231731687303715884105728 * y := by omega
    omega
theorem div64_ok (x y : Int) (hx : InW x) (hy0 : 0 < y) (hy1 : y < 4294967296) (w0 : World) : Ret Tryz.prog 114 #[wv x, .int .u64 (IntKind.u64.wrap y)] w0 fun v w' => v = .tuple #[wv (x / y), .int .u64 (x % y), .bool true] ∧ Only [] w0 w' := by
  rw [u64_of32 ⟨by omega, hy1⟩]; exact div_ok x y hx hy0 (by omega) w0
theorem small_ok (x : Int) (hx : InW x) (h : In64 x) (w0 : World) : Ret Tryz.prog 115 #[wv x] w0 fun v w' => v = .tuple #[.int .i64 x, .bool true] ∧ Only [] w0 w' := by
  have := small_ret x hx w0; unfold smallV at this; rwa [if_pos h] at this
theorem small_no (x : Int) (hx : InW x) (h : ¬ In64 x) (w0 : World) : Ret Tryz.prog 115 #[wv x] w0 fun v w' => v = .tuple #[.int .i64 0, .bool false] ∧ Only [] w0 w' := by
  have := small_ret x hx w0; unfold smallV at this; rwa [if_neg h] at this
def atP (base d w : Int) : Option Pt := if mayW w = true ∧ In64 (d / w) then some ⟨lat base (d / w), d % w, w⟩ else none
def Pt.zero : Pt := ⟨0, 0, 0⟩
def ptV (o : Option Pt) : Value := .tuple #[pv (o.getD .zero), .bool o.isSome]
theorem mayW_iff {w : Int} : mayW w = true ↔ 1 ≤ w ∧ w ≤ 1048576 := by unfold mayW; simp
theorem at_some {base d w : Int} {p : Pt} (h : atP base d w = some p) : p.In ∧ p.w = w ∧ p.right = true := by
  unfold atP at h
  split at h
  · rename_i hc
    cases h
    have h1 := mayW_iff.1 hc.1
    have m0 := Int.emod_nonneg d (show w ≠ 0 by omega)
    have m1 := Int.emod_lt_of_pos d (show 0 < w by omega)
    refine ⟨⟨lat_in _ _, ⟨m0, by show d % w < _; omega⟩, by show 0 ≤ w; omega, by show w < _; omega⟩, rfl, ?_⟩
    unfold Pt.right
    simp only [hc.1, Bool.true_and, decide_eq_true_eq]
    exact m1
  · cases h
theorem at_ret (base d q : Int) (hd : InW d) (w0 : World) : Ret Tryz.prog 212 #[.int .u64 base, wv d, .int .u32 q] w0 fun v w' => v = ptV (atP base d q) ∧ Only [] w0 w' := by
  have hs := St.nil w0
  refine ret_of_xc Tryz.func212 (by kernel_rfl) rfl Tryz.ntmps212 rfl rfl rfl ?_
  repeat' (first|refine vs (k:=?_)|(refine al hs (k:=?_);intro b w hz hs)|(refine bx hs (k:=?_);intro b w hz hs)|refine qRg ?_|refine Nx.h ?_|fail)
  (with_reducible apply xs_call); exact rfl; exact rfl; exact weight_ret q _
  rintro v w' ⟨rfl, ho⟩; replace hs := hs.call0 ho; repeat' (first|refine vs (k:=?_)|(refine stA hs (k:=?_);intro w hs)|refine qRg ?_|refine Nx.h ?_|(refine xc_cond rfl (fun hc=>?_) (fun hc=>?_))|fail)
  · first | refine rt (hq := ?_) | refine rt' (hq := ?_)
    refine ⟨?_, hs.only0 rfl⟩
    have : mayW q = false := by simpa using hc
    unfold atP
    rw [this]; rfl
  · have h0 : mayW q = true := by simpa using hc
    have h1 := mayW_iff.1 h0
    (with_reducible apply xs_call); exact rfl; exact rfl; exact div64_ok d q hd (by omega) (by omega) _
    rintro v w' ⟨rfl, ho⟩; replace hs := hs.call0 ho; repeat' (first|refine vs (k:=?_)|(refine stA hs (k:=?_);intro w hs)|(refine al hs (k:=?_);intro b w hz hs)|refine qRg ?_|refine Nx.h ?_|fail)
    by_cases h64 : In64 (d / q)
    · (with_reducible apply xs_call); exact rfl; exact rfl; exact small_ok (d / q) (div_in hd (by omega)) h64 _
      rintro v w' ⟨rfl, ho⟩; replace hs := hs.call0 ho; repeat' (first|refine vs (k:=?_)|refine qRg ?_|refine Nx.h ?_|refine qCf ?_|fail)
      (with_reducible apply xs_call); exact rfl; exact rfl; exact vadd_ret base (d / q) _
      rintro v w' ⟨rfl, ho⟩; replace hs := hs.call0 ho; repeat' (first|refine vs (k:=?_)|(refine stA hs (k:=?_);intro w hs)|refine Nx.h ?_|fail)
      first | refine rt (hq := ?_) | refine rt' (hq := ?_)
      refine ⟨?_, hs.only0 rfl⟩
      unfold atP
      rw [if_pos ⟨h0, h64⟩]
      have e : IntKind.u32.wrap (d % q) = d % q := u32_id ⟨Int.emod_nonneg _ (by omega), by have := Int.emod_lt_of_pos d (show 0 < q by omega); omega⟩
      rw [e]; rfl
    · (with_reducible apply xs_call); exact rfl; exact rfl; exact small_no (d / q) (div_in hd (by omega)) h64 _
      rintro v w' ⟨rfl, ho⟩; replace hs := hs.call0 ho; repeat' (first|refine vs (k:=?_)|(refine stA hs (k:=?_);intro w hs)|refine qRg ?_|refine Nx.h ?_|refine qCt ?_|fail)
      first | refine rt (hq := ?_) | refine rt' (hq := ?_)
      refine ⟨?_, hs.only0 rfl⟩
      unfold atP
      rw [if_neg (fun h => h64 h.2)]; rfl
end Go.Proofs.YtilajmcellffiaaGreatDoorX

namespace Go.Proofs.YtilajmcellffiaaGreatDoorX
open Go Go.RowKit
attribute [local irreducible] XS XC XA thenE blockE retE loopE loopS cutB cutN doneE SE
def tot (x : Int) : Int := if InW x then x else 0
theorem tot_in (x : Int) : InW (tot x) := by unfold tot; split; assumption; decide
theorem tell_tot (x : Int) : tellV x = .tuple #[wv (tot x), .bool (decide (InW x))] := by
  unfold tellV tot; split <;> rename_i h <;> simp [h]
theorem add_t (x y : Int) (hx : InW x) (hy : InW y) (w0 : World) : Ret Tryz.prog 183 #[wv x, wv y] w0 fun v w' => v = .tuple #[wv (tot (x + y)), .bool (decide (InW (x + y)))] ∧ Only [] w0 w' := by
  have := add_ret x y hx hy w0; rwa [tell_tot] at this
theorem sub_t (x y : Int) (hx : InW x) (hy : InW y) (w0 : World) : Ret Tryz.prog 158 #[wv x, wv y] w0 fun v w' => v = .tuple #[wv (tot (x - y)), .bool (decide (InW (x - y)))] ∧ Only [] w0 w' := by
  have := sub_ret x y hx hy w0; rwa [tell_tot] at this
theorem mul_t (x n : Int) (hx : InW x) (hn : In64 n) (w0 : World) : Ret Tryz.prog 156 #[wv x, .int .i64 n] w0 fun v w' => v = .tuple #[wv (tot (x * n)), .bool (decide (InW (x * n)))] ∧ Only [] w0 w' := by
  have := mul_ret x n hx hn.1 hn.2 w0; rwa [tell_tot] at this
theorem neg_t (x : Int) (hx : InW x) (w0 : World) : Ret Tryz.prog 238 #[wv x] w0 fun v w' => v = .tuple #[wv (tot (-x)), .bool (decide (InW (-x)))] ∧ Only [] w0 w' := by
  have := neg_ret x hx w0; rwa [tell_tot] at this
def sml (x : Int) : Int := if In64 x then x else 0
theorem small_t (x : Int) (hx : InW x) (w0 : World) : Ret Tryz.prog 115 #[wv x] w0 fun v w' => v = .tuple #[.int .i64 (sml x), .bool (decide (In64 x))] ∧ Only [] w0 w' := by
  have := small_ret x hx w0
  have e : smallV x = .tuple #[.int .i64 (sml x), .bool (decide (In64 x))] := by unfold smallV sml; split <;> rename_i h <;> simp [h]
  rwa [e] at this
def movP (p : Pt) (g : Int) : Option Pt := atP p.t (g + p.r) p.w
theorem move_ret (p : Pt) (g : Int) (h : p.In) (hg : U64 g) (w0 : World) : Ret Tryz.prog 170 #[pv p, .int .u64 g] w0 fun v w' => v = ptV (movP p g) ∧ Only [] w0 w' := by
  obtain ⟨⟨ht0, ht1⟩, ⟨hr0, hr1⟩, hw0, hw1⟩ := h
  obtain ⟨hg0, hg1⟩ := hg
  have hs := St.nil w0
  refine ret_of_xc Tryz.func170 (by kernel_rfl) rfl Tryz.ntmps170 rfl rfl rfl ?_
  repeat' (first|refine vs (k:=?_)|(refine al hs (k:=?_);intro b w hz hs)|(refine bx hs (k:=?_);intro b w hz hs)|refine qRg ?_|refine Nx.h ?_|fail)
  refine dr [] hs (k := ?_); intro hX w hs
  refine tk 0 hX (k := ?_)
  refine tk 2 hX (k := ?_)
  refine tk 3 hX (k := ?_)
  refine tk 4 hX (k := ?_)
  refine pd0 10 6 hs (k := ?_); intro f X w hp; have hs := hp.st
  apply xa_pend 1 10 (f := f) (X := X) hX hp; exact rfl; exact rfl; (first | (apply makes_alloc tabOk; exact rfl) | (apply makes_slice tabOk; exact rfl; exact rfl; exact rfl; exact rfl; exact rfl; (intro X; ((repeat (first | exact Bld.nil | (apply Bld.one; exact rfl; (conv => lhs; whnf); exact rfl; (repeat (first | exact PutL.nil | apply PutL.skip | apply PutL.cons))) | (apply Bld.agg; exact rfl; exact rfl; exact rfl; (repeat (first | exact PutL.nil | apply PutL.skip | apply PutL.cons))))))))); kernel_rfl; kernel_rfl; kernel_rfl; kernel_rfl; (intro X Y; (repeat (first | exact pgg_base | refine pgg_step ?_ (by exact rfl)))); (intro w' hs; ((first | exact se_hold hs.hold | exact se_hold (hold_sim hs.hold rfl) | exact se_hold (hold_sim hs.hold.tail rfl) | exact se_hold (hR hs rfl) | exact se_hold hs.hold.tail | exact se_hold hs.hold.tail.tail | exact se_hold hs.hold.tail.tail.tail | exact se_done rfl))); intro f X w hp; have hs := hp.st
  (with_reducible apply xs_call); exact rfl; exact rfl; exact ofU_ret g (by omega) (by omega) _
  rintro v w' ⟨rfl, ho⟩; replace hp := hp.only ho; replace hs := hp.st; repeat' (first|refine Nx.h ?_|fail)
  refine dn (k := ?_)
  apply xa_pend 5 10 (f := f) (X := X) hX hp; exact rfl; exact rfl; (first | (apply makes_alloc tabOk; exact rfl) | (apply makes_slice tabOk; exact rfl; exact rfl; exact rfl; exact rfl; exact rfl; (intro X; ((repeat (first | exact Bld.nil | (apply Bld.one; exact rfl; (conv => lhs; whnf); exact rfl; (repeat (first | exact PutL.nil | apply PutL.skip | apply PutL.cons))) | (apply Bld.agg; exact rfl; exact rfl; exact rfl; (repeat (first | exact PutL.nil | apply PutL.skip | apply PutL.cons))))))))); kernel_rfl; kernel_rfl; kernel_rfl; kernel_rfl; (intro X Y; (repeat (first | exact pgg_base | refine pgg_step ?_ (by exact rfl)))); (intro w' hs; ((first | exact se_hold hs.hold | exact se_hold (hold_sim hs.hold rfl) | exact se_hold (hold_sim hs.hold.tail rfl) | exact se_hold (hR hs rfl) | exact se_hold hs.hold.tail | exact se_hold hs.hold.tail.tail | exact se_hold hs.hold.tail.tail.tail | exact se_done rfl))); intro f X w hp; have hs := hp.st
  (with_reducible apply xs_call); exact rfl; exact rfl; exact ofU32_ret p.r ⟨hr0, hr1⟩ _
  rintro v w' ⟨rfl, ho⟩; replace hp := hp.only ho; replace hs := hp.st; repeat' (first|refine Nx.h ?_|fail)
  refine dn (k := ?_)
  apply xa_pend 6 10 (f := f) (X := X) hX hp; exact rfl; exact rfl; (first | (apply makes_alloc tabOk; exact rfl) | (apply makes_slice tabOk; exact rfl; exact rfl; exact rfl; exact rfl; exact rfl; (intro X; ((repeat (first | exact Bld.nil | (apply Bld.one; exact rfl; (conv => lhs; whnf); exact rfl; (repeat (first | exact PutL.nil | apply PutL.skip | apply PutL.cons))) | (apply Bld.agg; exact rfl; exact rfl; exact rfl; (repeat (first | exact PutL.nil | apply PutL.skip | apply PutL.cons))))))))); kernel_rfl; kernel_rfl; kernel_rfl; kernel_rfl; (intro X Y; (repeat (first | exact pgg_base | refine pgg_step ?_ (by exact rfl)))); (intro w' hs; ((first | exact se_hold hs.hold | exact se_hold (hold_sim hs.hold rfl) | exact se_hold (hold_sim hs.hold.tail rfl) | exact se_hold (hR hs rfl) | exact se_hold hs.hold.tail | exact se_hold hs.hold.tail.tail | exact se_hold hs.hold.tail.tail.tail | exact se_done rfl))); intro f X w hp; have hs := hp.st
  (with_reducible apply xs_call); exact rfl; exact rfl; exact add_ok g p.r (by unfold InW; omega) (by unfold InW; omega) (by unfold InW; omega) _
  rintro v w' ⟨rfl, ho⟩; replace hp := hp.only ho; replace hs := hp.st; repeat' (first|refine Nx.h ?_|fail)
  refine dn (k := ?_)
  refine tk 7 hX (hc := by cases f <;> kernel_rfl) (k := ?_)
  refine tk 8 hX (hc := by cases f <;> kernel_rfl) (k := ?_)
  refine tk 9 hX (hc := by cases f <;> kernel_rfl) (k := ?_)
  apply xa_pendE 10 (f := f) (X := X) hX hp; exact rfl; (first | (apply makes_alloc tabOk; exact rfl) | (apply makes_slice tabOk; exact rfl; exact rfl; exact rfl; exact rfl; exact rfl; (intro X; ((repeat (first | exact Bld.nil | (apply Bld.one; exact rfl; (conv => lhs; whnf); exact rfl; (repeat (first | exact PutL.nil | apply PutL.skip | apply PutL.cons))) | (apply Bld.agg; exact rfl; exact rfl; exact rfl; (repeat (first | exact PutL.nil | apply PutL.skip | apply PutL.cons))))))))); kernel_rfl; kernel_rfl; (intro X Y; (repeat (first | exact pgg_base | refine pgg_step ?_ (by exact rfl)))); (intro w' hs; ((first | exact se_hold hs.hold | exact se_hold (hold_sim hs.hold rfl) | exact se_hold (hold_sim hs.hold.tail rfl) | exact se_hold (hR hs rfl) | exact se_hold hs.hold.tail | exact se_hold hs.hold.tail.tail | exact se_hold hs.hold.tail.tail.tail | exact se_done rfl))); intro b w hI hs
  refine dt 11 hX (k := ?_)
  repeat' (first|(refine stA hs (k:=?_);intro w hs)|refine Nx.h ?_|fail)
  refine dn (k := ?_)
  refine tk 12 hX (k := ?_)
  refine en (k := ?_)
  repeat' (first|refine vs (k:=?_)|refine qRg ?_|refine Nx.h ?_|fail)
  (with_reducible apply xs_call); exact rfl; exact rfl; exact at_ret p.t (g + p.r) p.w (by unfold InW; omega) _
  rintro v w' ⟨rfl, ho⟩; replace hs := hs.call0 ho; repeat' (first|refine vs (k:=?_)|(refine stA hs (k:=?_);intro w hs)|refine Nx.h ?_|fail)
  first | refine rt (hq := ?_) | refine rt' (hq := ?_)
  exact ⟨rfl, hs.only0 rfl⟩
def cmpP (p q : Pt) : Int := if cmpI 0 (sn q.t p.t) = 0 then cmpI (p.r * q.w) (q.r * p.w) else cmpI 0 (sn q.t p.t)
theorem prod32 {a b : Int} (ha : U32 a) (hb : U32 b) : IntKind.u64.wrap (IntKind.u64.wrap a * IntKind.u64.wrap b) = a * b := by
  rw [u64_of32 ha, u64_of32 hb]
  refine u64_id ⟨Int.mul_nonneg ha.1 hb.1, ?_⟩
  have := mul_rng (w := a) (s := b) (W := 4294967296) (S := 4294967296) ha.1 (Int.le_of_lt ha.2) (by have := hb.1; omega) (Int.le_of_lt hb.2)
  have h1 := ha.2
  have h2 : a * b ≤ a * 4294967295 := Int.mul_le_mul_of_nonneg_left (by have := hb.2; omega) ha.1
  omega
theorem pcmp_ret (p q : Pt) (hp' : p.In) (hq : q.In) (w0 : World) : Ret Tryz.prog 173 #[pv p, pv q] w0 fun v w' => v = .int .i64 (cmpP p q) ∧ Only [] w0 w' := by
  have hs := St.nil w0
  refine ret_of_xc Tryz.func173 (by kernel_rfl) rfl Tryz.ntmps173 rfl rfl rfl ?_
  repeat' (first|refine vs (k:=?_)|(refine bx hs (k:=?_);intro b w hz hs)|refine qRg ?_|refine Nx.h ?_|fail)
  refine dr [] hs (k := ?_); intro hX w hs
  refine tk 0 hX (k := ?_)
  refine tk 1 hX (k := ?_)
  refine tk 2 hX (k := ?_)
  refine tk 3 hX (k := ?_)
  refine tk 6 hX (k := ?_)
  refine tk 7 hX (k := ?_)
  refine tk 8 hX (k := ?_)
  refine tk 9 hX (k := ?_)
  refine tk 10 hX (k := ?_)
  refine tk 11 hX (k := ?_)
  refine tk 12 hX (k := ?_)
  refine tk 13 hX (k := ?_)
  refine tk 14 hX (k := ?_)
  refine tk 15 hX (k := ?_)
  refine tk 16 hX (k := ?_)
  refine tk 17 hX (k := ?_)
  refine tk 18 hX (k := ?_)
  refine tk 19 hX (k := ?_)
  refine xa_set 17 (congrArg (Value.int .u64) (prod32 hp'.2.1 hq.2.2)) ?_
  refine xa_set 24 (congrArg (Value.int .u64) (prod32 hq.2.1 hp'.2.2)) ?_
  refine dt 4 hX (k := ?_)
  (with_reducible apply xs_call); exact rfl; exact rfl; exact since_ret q.t p.t _
  rintro v w' ⟨rfl, ho⟩; replace hs := hs.call0 ho; repeat' (first|refine Nx.h ?_|fail)
  refine dn (k := ?_)
  refine dt 5 hX (k := ?_)
  (with_reducible apply xs_call); exact rfl; exact rfl; exact compareS_ret 0 (sn q.t p.t) _
  rintro v w' ⟨rfl, ho⟩; replace hs := hs.call0 ho; repeat' (first|refine Nx.h ?_|fail)
  refine dn (k := ?_)
  refine dt 20 hX (k := ?_)
  (with_reducible apply xs_call); exact rfl; exact rfl; exact compareU_ret (p.r * q.w) (q.r * p.w) _
  rintro v w' ⟨rfl, ho⟩; replace hs := hs.call0 ho; repeat' (first|refine Nx.h ?_|fail)
  refine dn (k := ?_)
  refine dt 21 hX (k := ?_)
  repeat' (first|(refine bs hs (k:=?_);intro b w hz hs)|refine Nx.h ?_|fail)
  refine dn (k := ?_)
  refine dt 22 hX (k := ?_)
  (with_reducible apply xs_call); exact rfl; exact rfl; exact or_ret _ _ _ _ _ (hs.get At.head)
  rintro v w' ⟨rfl, ho⟩; replace hs := hs.call0 ho; repeat' (first|refine Nx.h ?_|fail)
  refine dn (k := ?_)
  refine tk 23 hX (k := ?_)
  refine en (k := ?_)
  repeat' (first|refine Nx.h ?_|fail)
  first | refine rt (hq := ?_) | refine rt' (hq := ?_)
  exact ⟨rfl, hs.only0 rfl⟩
def Pt.shift (p : Pt) (by_ : Int) : Pt := ⟨lat p.t by_, p.r, p.w⟩
theorem pshift_ret (p : Pt) (d : Int) (w0 : World) : Ret Tryz.prog 241 #[pv p, .int .u64 d] w0 fun v w' => v = pv (p.shift d) ∧ Only [] w0 w' := by
  have hs := St.nil w0
  refine ret_of_xc Tryz.func241 (by kernel_rfl) rfl Tryz.ntmps241 rfl rfl rfl ?_
  repeat' (first|refine vs (k:=?_)|(refine st hs (k:=?_);intro w hs)|(refine stA hs (k:=?_);intro w hs)|(refine al hs (k:=?_);intro b w hz hs)|(refine bx hs (k:=?_);intro b w hz hs)|refine qRg ?_|refine Nx.h ?_|fail)
  first | refine rt (hq := ?_) | refine rt' (hq := ?_)
  refine ⟨?_, hs.only0 rfl⟩
  unfold Pt.shift pv lat packed
  rw [wrap_u64]
end Go.Proofs.YtilajmcellffiaaGreatDoorX

namespace Go.Proofs.YtilajmcellffiaaGreatDoorX
open Go Go.RowKit
attribute [local irreducible] XS XC XA thenE blockE retE loopE loopS cutB cutN doneE SE
structure It where
  p : Pt
  id : Int
  d : Pt
deriving DecidableEq
abbrev It.cells (a : It) : List Value := [.int .u64 a.p.t, .int .u32 a.p.r, .int .u32 a.p.w, .int .i64 a.id, .int .u64 a.d.t, .int .u32 a.d.r, .int .u32 a.d.w]
def iv (a : It) : Value := .agg #[.int .u64 a.p.t, .int .u32 a.p.r, .int .u32 a.p.w, .int .i64 a.id, .int .u64 a.d.t, .int .u32 a.d.r, .int .u32 a.d.w]
def It.In (a : It) : Prop := a.p.In ∧ In64 a.id ∧ a.d.In
instance (a : It) : Decidable a.In := by unfold It.In; infer_instance
def It.zero : It := ⟨.zero, 0, .zero⟩
def It.right (a : It) : Bool := a.p.right && a.d.right && decide (a.p.w = a.d.w) && decide (0 < a.id) && decide (0 ≤ sn a.d.t a.p.t) && decide (sn a.d.t a.p.t ≤ 1152921504606846976)
set_option maxHeartbeats 1000000 in
theorem iright_ret (a : It) (w0 : World) : Ret Tryz.prog 103 #[iv a] w0 fun v w' => v = .bool a.right ∧ Only [] w0 w' := by
  have hs := St.nil w0
  refine ret_of_xc Tryz.func103 (by kernel_rfl) rfl Tryz.ntmps103 rfl rfl rfl ?_
  repeat' (first|refine vs (k:=?_)|(refine bx hs (k:=?_);intro b w hz hs)|refine qRg ?_|refine Nx.h ?_|fail)
  (with_reducible apply xs_call); exact rfl; exact rfl; exact since_ret a.d.t a.p.t _
  rintro v w' ⟨rfl, ho⟩; replace hs := hs.call0 ho; repeat' (first|refine vs (k:=?_)|refine qRg ?_|refine Nx.h ?_|fail)
  (with_reducible apply xs_call); exact rfl; exact rfl; exact pright_ret a.p _
  rintro v w' ⟨rfl, ho⟩; replace hs := hs.call0 ho; repeat' (first|refine vs (k:=?_)|refine ps (k:=?_)|refine Nx.h ?_|((with_reducible apply xs_guard);exact rfl;exact rfl;intro c hc;(fail_if_success have:true=c:=hc);(fail_if_success have:false=c:=hc);cases c)|fail)
  · first | refine rt (hq := ?_) | refine rt' (hq := ?_)
    refine ⟨?_, hs.only0 rfl⟩
    clear hs
    unfold It.right packed
    simp_all
  · (with_reducible apply xs_call); exact rfl; exact rfl; exact pright_ret a.d _
    rintro v w' ⟨rfl, ho⟩; replace hs := hs.call0 ho; repeat' (first|refine vs (k:=?_)|refine ps (k:=?_)|refine Nx.h ?_|((with_reducible apply xs_guard);exact rfl;exact rfl;intro c hc;(fail_if_success have:true=c:=hc);(fail_if_success have:false=c:=hc);cases c)|fail)
    all_goals (first | refine rt (hq := ?_) | refine rt' (hq := ?_))
    all_goals refine ⟨?_, hs.only0 rfl⟩
    all_goals clear hs
    all_goals (unfold It.right packed; simp_all <;> omega)
def ahead (a b : It) : Bool := decide (cmpP a.p b.p < 0) || (decide (cmpP a.p b.p = 0) && decide (a.id < b.id))
set_option maxHeartbeats 1000000 in
theorem ahead_ret (x y : It) (ha : x.In) (hb : y.In) (w0 : World) : Ret Tryz.prog 133 #[iv x, iv y] w0 fun v w' => v = .bool (ahead x y) ∧ Only [] w0 w' := by
  have hs := St.nil w0
  refine ret_of_xc Tryz.func133 (by kernel_rfl) rfl Tryz.ntmps133 rfl rfl rfl ?_
  repeat' (first|refine vs (k:=?_)|(refine bx hs (k:=?_);intro b w hz hs)|refine qRg ?_|refine Nx.h ?_|fail)
  (with_reducible apply xs_call); exact rfl; exact rfl; exact pcmp_ret x.p y.p ha.1 hb.1 _
  rintro v w' ⟨rfl, ho⟩; replace hs := hs.call0 ho; repeat' (first|refine vs (k:=?_)|refine ps (k:=?_)|refine qRg ?_|refine Nx.h ?_|((with_reducible apply xs_guard);exact rfl;exact rfl;intro c hc;(fail_if_success have:true=c:=hc);(fail_if_success have:false=c:=hc);cases c)|fail)
  all_goals (first | refine rt (hq := ?_) | refine rt' (hq := ?_))
  all_goals refine ⟨?_, hs.only0 rfl⟩
  all_goals clear hs
  all_goals (unfold ahead packed; simp_all)
def due (a b : It) : Bool := decide (cmpP a.d b.d < 0) || (decide (cmpP a.d b.d = 0) && ahead a b)
set_option maxHeartbeats 1000000 in
theorem due_ret (x y : It) (ha : x.In) (hb : y.In) (w0 : World) : Ret Tryz.prog 214 #[iv x, iv y] w0 fun v w' => v = .bool (due x y) ∧ Only [] w0 w' := by
  have hs := St.nil w0
  refine ret_of_xc Tryz.func214 (by kernel_rfl) rfl Tryz.ntmps214 rfl rfl rfl ?_
  repeat' (first|refine vs (k:=?_)|(refine bx hs (k:=?_);intro b w hz hs)|refine qRg ?_|refine Nx.h ?_|fail)
  (with_reducible apply xs_call); exact rfl; exact rfl; exact pcmp_ret x.d y.d ha.2.2 hb.2.2 _
  rintro v w' ⟨rfl, ho⟩; replace hs := hs.call0 ho; repeat' (first|refine vs (k:=?_)|refine ps (k:=?_)|refine qRg ?_|refine Nx.h ?_|((with_reducible apply xs_guard);exact rfl;exact rfl;intro c hc;(fail_if_success have:true=c:=hc);(fail_if_success have:false=c:=hc);cases c)|fail)
  · first | refine rt (hq := ?_) | refine rt' (hq := ?_)
    refine ⟨?_, hs.only0 rfl⟩
    clear hs
    unfold due packed; simp_all
  · (with_reducible apply xs_call); exact rfl; exact rfl; exact ahead_ret x y ha hb _
    rintro v w' ⟨rfl, ho⟩; replace hs := hs.call0 ho; repeat' (first|refine vs (k:=?_)|refine Nx.h ?_|fail)
    first | refine rt (hq := ?_) | refine rt' (hq := ?_)
    refine ⟨?_, hs.only0 rfl⟩
    clear hs
    unfold due packed; simp_all
  · first | refine rt (hq := ?_) | refine rt' (hq := ?_)
    refine ⟨?_, hs.only0 rfl⟩
    clear hs
    unfold due packed; simp_all
end Go.Proofs.YtilajmcellffiaaGreatDoorX

namespace Go.Proofs.YtilajmcellffiaaGreatDoorX
structure OrdOn {α : Type} (lt : α → α → Bool) (S : α → Prop) : Prop where
  irr : ∀ a, S a → lt a a = false
  tr : ∀ a b c, S a → S b → S c → lt a b = true → lt b c = true → lt a c = true
  tri : ∀ a b, S a → S b → lt a b = false → lt b a = false → a = b
inductive RB (α : Type) where
  | nil
  | node (l : RB α) (x : α) (r : RB α) (c : Bool)
namespace RB
variable {α : Type}
def red : RB α → Bool
  | nil => false
  | node _ _ _ c => c
def left : RB α → RB α
  | nil => nil
  | node l _ _ _ => l
def right : RB α → RB α
  | nil => nil
  | node _ _ r _ => r
def list : RB α → List α
  | nil => []
  | node l x r _ => l.list ++ x :: r.list
def depth : RB α → Nat
  | nil => 0
  | node l _ r _ => 1 + max l.depth r.depth
def toLeft : RB α → RB α
  | node l x (node rl y rr _) c => node (node l x rl true) y rr c
  | t => t
def toRight : RB α → RB α
  | node (node ll y lr _) x r c => node ll y (node lr x r true) c
  | t => t
def flip : RB α → RB α
  | node (node a x b c1) y (node d z e c2) c => node (node a x b !c1) y (node d z e !c2) !c
  | t => t
def mend1 (t : RB α) : RB α := bif t.right.red && !t.left.red then toLeft t else t
def mend2 (t : RB α) : RB α := bif t.left.red && t.left.left.red then toRight t else t
def mend3 (t : RB α) : RB α := bif t.left.red && t.right.red then flip t else t
def mend (t : RB α) : RB α := mend3 (mend2 (mend1 t))
def ins (lt : α → α → Bool) : RB α → α → RB α
  | nil, x => node nil x nil true
  | node l y r c, x => bif lt x y then mend (node (ins lt l x) y r c) else mend (node l y (ins lt r x) c)
def blacken : RB α → RB α
  | nil => nil
  | node l x r _ => node l x r false
theorem left_node (l : RB α) (x : α) (r : RB α) (c : Bool) : (node l x r c).left = l := rfl
theorem right_node (l : RB α) (x : α) (r : RB α) (c : Bool) : (node l x r c).right = r := rfl
theorem red_node (l : RB α) (x : α) (r : RB α) (c : Bool) : (node l x r c).red = c := rfl
theorem list_toLeft : ∀ t : RB α, (toLeft t).list = t.list
  | nil => rfl
  | node l x nil c => rfl
  | node l x (node rl y rr _) c => by simp [toLeft, list]
theorem list_toRight : ∀ t : RB α, (toRight t).list = t.list
  | nil => rfl
  | node nil x r c => rfl
  | node (node ll y lr _) x r c => by simp [toRight, list]
theorem list_flip : ∀ t : RB α, (flip t).list = t.list
  | nil => rfl
  | node nil x r c => rfl
  | node (node a x b _) y nil c => rfl
  | node (node a x b _) y (node d z e _) c => by simp [flip, list]
theorem list_mend (t : RB α) : (mend t).list = t.list := by
  unfold mend mend3 mend2 mend1
  repeat' (cases (_ && _) <;> simp only [cond_true, cond_false])
  all_goals simp only [list_toLeft, list_toRight, list_flip]
theorem list_blacken : ∀ t : RB α, (blacken t).list = t.list
  | nil => rfl
  | node l x r c => rfl
def insL (lt : α → α → Bool) (x : α) : List α → List α
  | [] => [x]
  | y :: l => bif lt x y then x :: y :: l else y :: insL lt x l
theorem insL_left {lt : α → α → Bool} {x y : α} (h : lt x y = true) (R : List α) : ∀ L : List α, insL lt x (L ++ y :: R) = insL lt x L ++ y :: R
  | [] => by simp [insL, h]
  | z :: L => by
    simp only [List.cons_append, insL]
    cases lt x z <;> simp [insL_left h R L]
theorem insL_right {lt : α → α → Bool} {x : α} (R : List α) : ∀ L : List α, (∀ z ∈ L, lt x z = false) → insL lt x (L ++ R) = L ++ insL lt x R
  | [], _ => rfl
  | z :: L, h => by
    simp only [List.cons_append, insL, h z List.mem_cons_self, cond_false]
    rw [insL_right R L fun z hz => h z (List.mem_cons_of_mem _ hz)]
def Srt (lt : α → α → Bool) (l : List α) : Prop := l.Pairwise fun a b => lt a b = true
theorem srt_node {lt : α → α → Bool} {L R : List α} {y : α} (h : Srt lt (L ++ y :: R)) : Srt lt L ∧ Srt lt R ∧ (∀ z ∈ L, lt z y = true) ∧ (∀ z ∈ R, lt y z = true) ∧ ∀ a ∈ L, ∀ b ∈ R, lt a b = true := by
  unfold Srt at *
  rw [List.pairwise_append, List.pairwise_cons] at h
  obtain ⟨h1, ⟨h2, h3⟩, h4⟩ := h
  exact ⟨h1, h3, fun z hz => h4 z hz y List.mem_cons_self, h2, fun a ha b hb => h4 a ha b (List.mem_cons_of_mem _ hb)⟩
theorem asym {lt : α → α → Bool} {S : α → Prop} (ho : OrdOn lt S) {a b : α} (ha : S a) (hb : S b) (h : lt a b = true) : lt b a = false := by
  cases h2 : lt b a
  · rfl
  · have h3 := ho.tr a b a ha hb ha h h2
    rw [ho.irr a ha] at h3
    cases h3
theorem list_ins {lt : α → α → Bool} {S : α → Prop} (ho : OrdOn lt S) {x : α} (hx : S x) : ∀ t : RB α, Srt lt t.list → (∀ z ∈ t.list, S z) → (ins lt t x).list = insL lt x t.list
  | nil, _, _ => rfl
  | node l y r c, hs, hS => by
    obtain ⟨h1, h2, h3, h4, h5⟩ := srt_node hs
    simp only [list, List.mem_append, List.mem_cons] at hS
    have hl := list_ins ho hx l h1 fun z hz => hS z (.inl hz)
    have hr := list_ins ho hx r h2 fun z hz => hS z (.inr (.inr hz))
    have hy := hS y (.inr (.inl rfl))
    simp only [ins, list]
    cases hxy : lt x y
    · rw [cond_false, list_mend]
      simp only [list, hr]
      rw [insL_right _ l.list fun z hz => ?_]
      · simp [insL, hxy]
      · have hz' := hS z (.inl hz)
        cases hxz : lt x z
        · rfl
        · rw [ho.tr x z y hx hz' hy hxz (h3 z hz)] at hxy; cases hxy
    · rw [cond_true, list_mend]
      simp only [list, hl]
      rw [insL_left hxy]
/-! ### Balance -/
inductive Ok : RB α → Nat → Prop
  | nil : Ok nil 0
  | black {l r : RB α} {x : α} {h : Nat} : Ok l h → Ok r h → r.red = false → Ok (node l x r false) (h + 1)
  | red {l r : RB α} {x : α} {h : Nat} : Ok l h → Ok r h → l.red = false → r.red = false → Ok (node l x r true) h
inductive Alm : RB α → Nat → Prop
  | ok {t : RB α} {h : Nat} : Ok t h → Alm t h
  | rr {l r : RB α} {x : α} {h : Nat} : Ok l h → Ok r h → l.red = true → r.red = false → Alm (node l x r true) h
theorem Ok.blacken {t : RB α} {h : Nat} (k : Ok t h) : ∃ h', Ok (blacken t) h' := by
  cases k with
  | nil => exact ⟨_, .nil⟩
  | black a b c => exact ⟨_, .black a b c⟩
  | red a b c d => exact ⟨_, .black a b d⟩
theorem red_true {t : RB α} (h : t.red = true) : ∃ l x r, t = node l x r true := by
  cases t with
  | nil => cases h
  | node l x r c => exact ⟨l, x, r, by rw [show c = true from h]⟩
theorem Ok.inv_red {l r : RB α} {x : α} {h : Nat} (k : Ok (node l x r true) h) : Ok l h ∧ Ok r h ∧ l.red = false ∧ r.red = false := by
  cases k with
  | red a b c d => exact ⟨a, b, c, d⟩
theorem Ok.inv_black {l r : RB α} {x : α} {h : Nat} (k : Ok (node l x r false) h) : ∃ h', h = h' + 1 ∧ Ok l h' ∧ Ok r h' ∧ r.red = false := by
  cases k with
  | black a b c => exact ⟨_, rfl, a, b, c⟩
theorem red_left_false {t : RB α} {h : Nat} (k : Ok t h) (hr : t.red = true) : t.left.red = false := by
  obtain ⟨l, x, r, rfl⟩ := red_true hr
  exact k.inv_red.2.2.1
theorem mendL_black {l r : RB α} {y : α} {h : Nat} (hl : Alm l h) (hr : Ok r h) (h1 : r.red = false) : Ok (mend (node l y r false)) (h + 1) := by
  cases hl with
  | ok hl =>
    have hlr : (l.red && l.left.red) = false := by
      cases hc : l.red
      · rfl
      · rw [red_left_false hl hc]; rfl
    have : mend (node l y r false) = node l y r false := by
      simp [mend, mend1, mend2, mend3, left_node, right_node, red_node, h1, hlr]
    rw [this]
    exact .black hl hr h1
  | rr a b c d =>
    obtain ⟨ll, z, lr, rfl⟩ := red_true c
    obtain ⟨p1, p2, p3, p4⟩ := a.inv_red
    simp [mend, mend1, mend2, mend3, left_node, right_node, red_node, h1, toRight, flip]
    exact .red (.black p1 p2 p4) (.black b hr h1) rfl rfl
theorem mendL_red {l r : RB α} {y : α} {h : Nat} (hl : Ok l h) (hr : Ok r h) (h1 : r.red = false) : Alm (mend (node l y r true)) h := by
  have hlr : (l.red && l.left.red) = false := by
    cases hc : l.red
    · rfl
    · rw [red_left_false hl hc]; rfl
  have : mend (node l y r true) = node l y r true := by
    simp [mend, mend1, mend2, mend3, left_node, right_node, red_node, h1, hlr]
  rw [this]
  cases hc : l.red
  · exact .ok (.red hl hr hc h1)
  · exact .rr hl hr hc h1
theorem mendR_black {l r : RB α} {y : α} {h : Nat} (hl : Ok l h) (hr : Ok r h) : Ok (mend (node l y r false)) (h + 1) := by
  cases hc : r.red
  · exact mendL_black (.ok hl) hr hc
  · obtain ⟨rl, z, rr, rfl⟩ := red_true hc
    obtain ⟨p1, p2, p3, p4⟩ := hr.inv_red
    cases hd : l.red
    · have : mend (node l y (node rl z rr true) false) = node (node l y rl true) z rr false := by
        simp [mend, mend1, mend2, mend3, left_node, right_node, red_node, toLeft, hd, p4]
      rw [this]
      exact .black (.red hl p1 hd p3) p2 p4
    · obtain ⟨ll, u, lr, rfl⟩ := red_true hd
      obtain ⟨q1, q2, q3, q4⟩ := hl.inv_red
      have : mend (node (node ll u lr true) y (node rl z rr true) false) = node (node ll u lr false) y (node rl z rr false) true := by
        simp [mend, mend1, mend2, mend3, left_node, right_node, red_node, flip, q3]
      rw [this]
      exact .red (.black q1 q2 q4) (.black p1 p2 p4) rfl rfl
theorem mendR_red {l r : RB α} {y : α} {h : Nat} (hl : Ok l h) (hr : Ok r h) (h1 : l.red = false) : Alm (mend (node l y r true)) h := by
  cases hc : r.red
  · exact mendL_red hl hr hc
  · obtain ⟨rl, z, rr, rfl⟩ := red_true hc
    obtain ⟨p1, p2, p3, p4⟩ := hr.inv_red
    have : mend (node l y (node rl z rr true) true) = node (node l y rl true) z rr true := by
      simp [mend, mend1, mend2, mend3, left_node, right_node, red_node, toLeft, h1, p4]
    rw [this]
    exact .rr (.red hl p1 h1 p3) p2 rfl p4
theorem ok_ins (lt : α → α → Bool) (x : α) : ∀ {t : RB α} {h : Nat}, Ok t h → Alm (ins lt t x) h ∧ (t.red = false → Ok (ins lt t x) h) := by
  intro t h k
  induction k with
  | nil => exact ⟨.ok (.red .nil .nil rfl rfl), fun _ => .red .nil .nil rfl rfl⟩
  | @black l r y h a b c ia ib =>
    have key : Ok (ins lt (node l y r false) x) (h + 1) := by
      simp only [ins]
      cases lt x y
      · exact mendR_black a (ib.2 c)
      · exact mendL_black ia.1 b c
    exact ⟨.ok key, fun _ => key⟩
  | @red l r y h a b c d ia ib =>
    refine ⟨?_, fun h => by cases h⟩
    simp only [ins]
    cases lt x y
    · exact mendR_red a (ib.2 d) c
    · exact mendL_red (ia.2 c) b d
def Good (t : RB α) : Prop := t.red = false ∧ ∃ h, Ok t h
theorem Good.nil : Good (nil : RB α) := ⟨rfl, 0, .nil⟩
theorem blacken_red (t : RB α) : (blacken t).red = false := by cases t <;> rfl
theorem Good.ins {lt : α → α → Bool} {x : α} {t : RB α} (k : Good t) : Good (blacken (ins lt t x)) := by
  obtain ⟨hr, h, k⟩ := k
  exact ⟨blacken_red _, ((ok_ins lt x k).2 hr).blacken⟩
end RB
end Go.Proofs.YtilajmcellffiaaGreatDoorX

namespace Go.Proofs.YtilajmcellffiaaGreatDoorX
theorem sn_tri {a b c : Int} (h0 : -9223372036854775808 ≤ sn a b - sn c b) (h1 : sn a b - sn c b < 9223372036854775808) : sn a c = sn a b - sn c b := by unfold sn at *; omega
theorem sn_lat {b k : Int} (h : In64 k) : sn (lat b k) b = k := by unfold sn lat; unfold In64 at h; omega
theorem lat_sn {t b : Int} (h : U64 t) : lat b (sn t b) = t := by unfold sn lat; unfold U64 at h; omega
theorem lat_zero {b : Int} (h : U64 b) : lat b 0 = b := by unfold lat; unfold U64 at h; omega
theorem sn_self (b : Int) : sn b b = 0 := by unfold sn; omega
def Near (x y : Int) : Prop := -9223372036854775808 ≤ x - y ∧ x - y < 9223372036854775808
theorem sn_near {a c b : Int} (h : Near (sn a b) (sn c b)) : sn a c = sn a b - sn c b := sn_tri h.1 h.2
theorem mul_lt_cancel {c a b : Int} (hc : 0 < c) (h : c * a ≤ c * b) : a ≤ b := Int.le_of_mul_le_mul_left h hc
theorem fr_trans {a b c p q r : Int} (hp : 0 < p) (hq : 0 < q) (hr : 0 < r) (h1 : a * q ≤ b * p) (h2 : b * r ≤ c * q) : a * r ≤ c * p := by
  have k1 := Int.mul_le_mul_of_nonneg_right h1 (Int.le_of_lt hr)
  have k2 := Int.mul_le_mul_of_nonneg_right h2 (Int.le_of_lt hp)
  refine mul_lt_cancel hq ?_
  have e1 : q * (a * r) = a * q * r := by grind
  have e2 : b * p * r = b * r * p := by grind
  have e3 : c * q * p = q * (c * p) := by grind
  omega
theorem pright_all {p : Pt} (hp : p.In) (h : p.right = true) : 1 ≤ p.w ∧ p.w ≤ 1048576 ∧ 0 ≤ p.r ∧ p.r < p.w := by
  unfold Pt.right at h
  simp only [Bool.and_eq_true, decide_eq_true_eq] at h
  have := mayW_iff.1 h.1
  exact ⟨this.1, this.2, hp.2.1.1, h.2⟩
theorem cmpP_frac {p q : Pt} (hp : p.In) (hq : q.In) (h1 : p.right = true) (h2 : q.right = true) {b : Int} (hn : Near (sn q.t b) (sn p.t b)) : cmpP p q = cmpI (dist p b * q.w) (dist q b * p.w) := by
  have a1 := pright_all hp h1
  have a2 := pright_all hq h2
  unfold cmpP
  rw [sn_near hn]
  have d1 : dist p b = p.w * sn p.t b + p.r := rfl
  have d2 : dist q b = q.w * sn q.t b + q.r := rfl
  generalize sn p.t b = x at *
  generalize sn q.t b = y at *
  have e1 : dist p b * q.w = p.w * q.w * x + p.r * q.w := by rw [d1]; grind
  have e2 : dist q b * p.w = p.w * q.w * y + q.r * p.w := by rw [d2]; grind
  have m0 : 0 < p.w * q.w := Int.mul_pos (by omega) (by omega)
  have m1 : 0 ≤ p.r * q.w := Int.mul_nonneg (by omega) (by omega)
  have m2 : 0 ≤ q.r * p.w := Int.mul_nonneg (by omega) (by omega)
  have m3 : p.r * q.w < p.w * q.w := Int.mul_lt_mul_of_pos_right (by omega) (by omega)
  have m4 : q.r * p.w < p.w * q.w := by rw [Int.mul_comm p.w]; exact Int.mul_lt_mul_of_pos_right (by omega) (by omega)
  rw [e1, e2]
  generalize p.w * q.w = W at *
  generalize p.r * q.w = u at *
  generalize q.r * p.w = v at *
  rcases Int.lt_trichotomy x y with h | h | h
  · have : W * x + W ≤ W * y := by have := Int.mul_le_mul_of_nonneg_left (show x + 1 ≤ y by omega) (Int.le_of_lt m0); rwa [Int.mul_add, Int.mul_one] at this
    have c1 : cmpI 0 (y - x) = -1 := by unfold cmpI; rw [if_pos (by omega)]
    rw [c1, if_neg (by decide)]
    unfold cmpI; rw [if_pos (by omega)]
  · subst h
    have c1 : cmpI 0 (x - x) = 0 := by unfold cmpI; rw [if_neg (by omega), if_neg (by omega)]
    rw [if_pos c1]
    unfold cmpI
    by_cases k : u < v
    · rw [if_pos k, if_pos (by omega)]
    · rw [if_neg k, if_neg (show ¬ W * x + u < W * x + v by omega)]
      by_cases k' : v < u
      · rw [if_pos k', if_pos (by omega)]
      · rw [if_neg k', if_neg (by omega)]
  · have : W * y + W ≤ W * x := by have := Int.mul_le_mul_of_nonneg_left (show y + 1 ≤ x by omega) (Int.le_of_lt m0); rwa [Int.mul_add, Int.mul_one] at this
    have c1 : cmpI 0 (y - x) = 1 := by unfold cmpI; rw [if_neg (by omega), if_pos (by omega)]
    rw [c1, if_neg (by decide)]
    unfold cmpI; rw [if_neg (by omega), if_pos (by omega)]
theorem lex_ord {α : Type} {c : α → α → Int} {lt2 : α → α → Bool} {S : α → Prop} (le : α → α → Prop) (h1 : ∀ a b, S a → S b → (c a b < 0 ↔ ¬ le b a)) (h0 : ∀ a b, S a → S b → (c a b = 0 ↔ le a b ∧ le b a)) (tot : ∀ a b, S a → S b → le a b ∨ le b a)
    (tr : ∀ a b d, S a → S b → S d → le a b → le b d → le a d) (o : OrdOn lt2 S) : OrdOn (fun a b => decide (c a b < 0) || (decide (c a b = 0) && lt2 a b)) S where
  irr a ha := by
    have k1 := h1 a a ha ha
    have := tot a a ha ha
    simp only [o.irr a ha, Bool.and_false, Bool.or_false, decide_eq_false_iff_not, k1]
    rcases this with h | h <;> exact fun k => k h
  tr a b d ha hb hd k1 k2 := by
    simp only [Bool.or_eq_true, Bool.and_eq_true, decide_eq_true_eq] at k1 k2 ⊢
    rw [h1 a b ha hb, h0 a b ha hb] at k1
    rw [h1 b d hb hd, h0 b d hb hd] at k2
    rw [h1 a d ha hd, h0 a d ha hd]
    have tab := tot a b ha hb
    have tbd := tot b d hb hd
    have x1 := tr d a b hd ha hb
    have x2 := tr b d a hb hd ha
    have x3 := tr a b d ha hb hd
    have x4 := tr d b a hd hb ha
    rcases k1 with k1 | ⟨⟨k1, k1'⟩, k3⟩
    · left; intro hda
      rcases k2 with k2 | ⟨⟨k2, k2'⟩, k4⟩
      · rcases tbd with h | h
        · exact k1 (x2 h hda)
        · exact k2 h
      · exact k1 (x2 k2 hda)
    · rcases k2 with k2 | ⟨⟨k2, k2'⟩, k4⟩
      · left; intro hda
        exact k2 (x1 hda k1)
      · right; exact ⟨⟨x3 k1 k2, x4 k2' k1'⟩, o.tr a b d ha hb hd k3 k4⟩
  tri a b ha hb k1 k2 := by
    simp only [Bool.or_eq_false_iff, Bool.and_eq_false_iff, decide_eq_false_iff_not] at k1 k2
    rw [h1 a b ha hb, h0 a b ha hb] at k1
    rw [h1 b a hb ha, h0 b a hb ha] at k2
    have q1 : le b a := Classical.not_not.1 k1.1
    have q2 : le a b := Classical.not_not.1 k2.1
    rcases k1.2 with h | h
    · exact absurd ⟨q2, q1⟩ h
    · rcases k2.2 with h' | h'
      · exact absurd ⟨q1, q2⟩ h'
      · exact o.tri a b ha hb h h'
structure Win (b lo : Int) (x : It) : Prop where
  isin : x.In
  right : x.right = true
  low : lo ≤ sn x.p.t b
  high : sn x.p.t b + sn x.d.t x.p.t ≤ lo + 4611686018427387904
theorem iright_all {x : It} (hx : x.In) (h : x.right = true) : x.p.right = true ∧ x.d.right = true ∧ x.p.w = x.d.w ∧ 0 < x.id ∧ 0 ≤ sn x.d.t x.p.t ∧ sn x.d.t x.p.t ≤ 1152921504606846976 ∧ (1 ≤ x.p.w ∧ x.p.w ≤ 1048576 ∧ 0 ≤ x.p.r ∧ x.p.r < x.p.w) ∧ 0 ≤ x.d.r ∧ x.d.r < x.p.w := by
  unfold It.right at h
  simp only [Bool.and_eq_true, decide_eq_true_eq] at h
  obtain ⟨⟨⟨⟨⟨h1, h2⟩, h3⟩, h4⟩, h5⟩, h6⟩ := h
  have a1 := pright_all hx.1 h1
  have a2 := pright_all hx.2.2 h2
  exact ⟨h1, h2, h3, h4, h5, h6, a1, a2.2.2.1, by omega⟩
def Mid (lo : Int) : Prop := -4611686018427387904 ≤ lo ∧ lo ≤ 0
theorem Win.dead {b lo : Int} {x : It} (h : Win b lo x) (hm : Mid lo) : sn x.d.t b = sn x.p.t b + sn x.d.t x.p.t ∧ 0 ≤ sn x.d.t x.p.t ∧ sn x.p.t b ≤ lo + 4611686018427387904 := by
  obtain ⟨_, _, _, _, h5, h6, _⟩ := iright_all h.isin h.right
  have h1 := h.low
  have h2 := h.high
  unfold Mid at hm
  refine ⟨?_, h5, by omega⟩
  unfold sn at *; omega
theorem Win.move {b lo c : Int} {x : It} (h : Win b lo x) (hm : Mid lo) (h0 : lo ≤ sn c b) (h1 : sn c b ≤ lo + 4611686018427387904) : Win c (lo - sn c b) x ∧ sn x.p.t c = sn x.p.t b - sn c b := by
  have d := h.dead hm
  have k1 := h.low
  have k2 := h.high
  unfold Mid at hm
  have e : sn x.p.t c = sn x.p.t b - sn c b := sn_tri (by omega) (by omega)
  exact ⟨⟨h.isin, h.right, by omega, by omega⟩, e⟩
theorem dist_move {p : Pt} {b c k : Int} (e : sn p.t c = sn p.t b - k) : dist p c = dist p b - p.w * k := by
  unfold dist; rw [e, Int.mul_sub]; omega
def leP (b : Int) (p q : Pt) : Prop := dist p b * q.w ≤ dist q b * p.w
theorem cmp_le {p q : Pt} {b : Int} (e : cmpP p q = cmpI (dist p b * q.w) (dist q b * p.w)) : (cmpP p q < 0 ↔ ¬ leP b q p) ∧ (cmpP p q = 0 ↔ leP b p q ∧ leP b q p) := by
  rw [e]; unfold leP cmpI
  split
  · constructor <;> constructor <;> intro <;> first | omega | skip
  · split
    · constructor <;> constructor <;> intro <;> first | omega | skip
    · constructor <;> constructor <;> intro <;> first | omega | skip
theorem ahead_ord {b lo : Int} (hm : Mid lo) {S : It → Prop} (hS : ∀ x, S x → Win b lo x) (hi : ∀ x y, S x → S y → x.id = y.id → x = y) : OrdOn ahead S := by
  have hc : ∀ x y, S x → S y → cmpP x.p y.p = cmpI (dist x.p b * y.p.w) (dist y.p b * x.p.w) := fun x y hx hy => by
    have a1 := hS x hx
    have a2 := hS y hy
    have d1 := a1.dead hm
    have d2 := a2.dead hm
    have l1 := a1.low
    have l2 := a2.low
    exact cmpP_frac a1.isin.1 a2.isin.1 (iright_all a1.isin a1.right).1 (iright_all a2.isin a2.right).1 (by unfold Near; unfold Mid at hm; omega)
  have hw : ∀ x, S x → 0 < x.p.w := fun x hx => by have := (iright_all (hS x hx).isin (hS x hx).right).2.2.2.2.2.2.1; omega
  have oid : OrdOn (fun x y : It => decide (x.id < y.id)) S := by
    constructor
    · intro a _; simp
    · intro a b c _ _ _ h1 h2; simp only [decide_eq_true_eq] at *; omega
    · intro a b ha hb h1 h2; simp only [decide_eq_false_iff_not] at *; exact hi a b ha hb (by omega)
  exact lex_ord (c := fun x y : It => cmpP x.p y.p) (fun x y => leP b x.p y.p) (fun x y hx hy => (cmp_le (hc x y hx hy)).1) (fun x y hx hy => (cmp_le (hc x y hx hy)).2) (fun x y _ _ => Int.le_total _ _) (fun x y z hx hy hz h1 h2 => fr_trans (hw x hx) (hw y hy) (hw z hz) h1 h2) oid
theorem due_ord {b lo : Int} (hm : Mid lo) {S : It → Prop} (hS : ∀ x, S x → Win b lo x) (hi : ∀ x y, S x → S y → x.id = y.id → x = y) : OrdOn due S := by
  have hc : ∀ x y, S x → S y → cmpP x.d y.d = cmpI (dist x.d b * y.d.w) (dist y.d b * x.d.w) := fun x y hx hy => by
    have a1 := hS x hx
    have a2 := hS y hy
    have d1 := a1.dead hm
    have d2 := a2.dead hm
    have l1 := a1.low
    have l2 := a2.low
    have r1 := iright_all a1.isin a1.right
    have r2 := iright_all a2.isin a2.right
    have u1 := a1.high
    have u2 := a2.high
    exact cmpP_frac a1.isin.2.2 a2.isin.2.2 r1.2.1 r2.2.1 (by unfold Near; unfold Mid at hm; omega)
  have hw : ∀ x, S x → 0 < x.d.w := fun x hx => by
    have := iright_all (hS x hx).isin (hS x hx).right
    have h3 := this.2.2.1
    have h4 := this.2.2.2.2.2.2.1
    omega
  exact lex_ord (c := fun x y : It => cmpP x.d y.d) (fun x y => leP b x.d y.d) (fun x y hx hy => (cmp_le (hc x y hx hy)).1) (fun x y hx hy => (cmp_le (hc x y hx hy)).2) (fun x y _ _ => Int.le_total _ _) (fun x y z hx hy hz h1 h2 => fr_trans (hw x hx) (hw y hy) (hw z hz) h1 h2) (ahead_ord hm hS hi)
end Go.Proofs.YtilajmcellffiaaGreatDoorX

namespace Go.Proofs.YtilajmcellffiaaGreatDoorX
open Go Go.RowKit
section
variable {P : Program} {ops : Array Oper} {QE : Exit → Env → World → Prop} {n : Nat} {rest : List Oper} {env : Env} {w wb : World} {D : Ctx} {H : List Ent} {T : Tab}
  {d : Option Nat} {ty : Nat} {pos : String} {aft : Array Edge} {g : Option (Nat × Bool)}
theorem append_many {t e size bytes : Nat} (hu : P.underlying t = some (.slice e)) {i : TypeInfo} (hi : P.info? e = some i) (hs1 : i.size = size) (hs2 : i.bytes = bytes) {z : Value} (hz : i.zero = some z) (hzc : z.cells.size = size)
    {v : Value} {k : Nat} {xs news : List Value} {a : Addr} {c m : Nat} (hO : OwnS wb D H e size v k xs w) (hl : news.length = c * size) (hc0 : 0 < c) (hcs : ∀ (j : Nat) u, news[j]? = some u → w.cell? (a.add j) = some u) (h1 : ∀ u ∈ news, u.oneCell' = true)
    (hk : (k + c) * bytes ≤ 140737488355328) (hk' : k + c ≤ 9223372036854775807) :
    ∃ v' w', (Builtin.append_ #[t, t] ty #[v, .slice (some a) c m]).run P w = .ok v' w' ∧ OwnS wb D H e size v' (k + c) (xs ++ news) w' ∧ v' ≠ .slice none 0 0 := by
  subst hs1 hs2
  have hcb : c * i.bytes ≤ 281474976710656 := by
    have := Nat.mul_le_mul_right i.bytes (show c ≤ k + c by omega)
    omega
  rcases hO with ⟨rfl, rfl, rfl, hs⟩ | ⟨g, cap, cur, rfl, hc, hcl, hxl, htk, hs⟩
  · have hr := run_append_nil (P := P) w t ty e i z hu hi hz a c m news hl hcs hc0 (by omega) hcb
    refine ⟨_, _, hr, .inr ⟨w.heap.size, grownCap w c 0 e, (news.toArray ++ Builtin.zeroCells z.cells (grownCap w c 0 e - c)).toList, by rw [Nat.zero_add], by rw [Nat.zero_add]; exact grownCap_ge w c 0 e, ?_, ?_, ?_, hs.drew'.alloc _⟩, by simp⟩
    · have := grownCap_ge w c 0 e
      simp only [Array.toList_append, List.length_append, zero_list, hzc, hl]
      rw [← Nat.add_mul]; congr 1; omega
    · rw [Nat.zero_add, List.nil_append, hl]
    · rw [List.nil_append, Nat.zero_add, Array.toList_append, List.take_append_of_le_length (by simp [hl])]
      exact List.take_of_length_le (by simp [hl])
  · have hg := hs.get At.head
    by_cases hroom : k + c ≤ cap
    · have hfit : k * i.size + news.length ≤ cur.toArray.size := by
        rw [hl, List.size_toArray, hcl, ← Nat.add_mul]; exact Nat.mul_le_mul_right _ hroom
      have hr := run_append_room (P := P) w t ty e i hu hi g k cap cur.toArray hg a c m news hl hcs h1 hroom hfit
      simp only [List.size_toArray] at hfit
      refine ⟨_, _, hr, .inr ⟨g, cap, (cur.take (k * i.size) ++ news ++ cur.drop (k * i.size + news.length)), rfl, hroom, ?_, ?_, ?_, hs.row At.head _⟩, by simp⟩
      · simp only [List.length_append, List.length_take, List.length_drop]
        omega
      · rw [List.length_append, hxl, hl, Nat.add_mul]
      · rw [List.append_assoc, ← List.append_assoc, htk, List.take_append_of_le_length (by rw [List.length_append, hxl, hl, Nat.add_mul]; exact Nat.le_refl _)]
        exact List.take_of_length_le (by rw [List.length_append, hxl, hl, Nat.add_mul]; exact Nat.le_refl _)
    · have hold : ∀ (j : Nat) u, xs[j]? = some u → w.cell? ((⟨g, 0, none⟩ : Addr).add j) = some u := fun j u hj => by
        rw [add_addr]
        rw [← htk, List.getElem?_take] at hj
        split at hj
        · simp [World.cell?, hg, hj]
        · cases hj
      have hr := run_append_grow (P := P) w t ty e i z hu hi hz ⟨g, 0, none⟩ k cap xs hxl hold a c m news hl hcs (by omega) (by omega) (growslice_fits (by omega) hk)
      have hge := grownCap_ge w (k + c) cap e
      refine ⟨_, _, hr, .inr ⟨w.heap.size, grownCap w (k + c) cap e, (xs.toArray ++ news.toArray ++ Builtin.zeroCells z.cells (grownCap w (k + c) cap e - (k + c))).toList, rfl, hge, ?_, ?_, ?_, (hs.drew'.alloc _).swap.forgetNew⟩, by simp⟩
      · simp only [Array.toList_append, List.length_append, zero_list, hzc, hl, hxl]
        rw [← Nat.add_mul, ← Nat.add_mul]; congr 1; omega
      · rw [List.length_append, hxl, hl, Nat.add_mul]
      · rw [Array.toList_append, Array.toList_append, List.take_append_of_le_length (by simp [hxl, hl, Nat.add_mul])]
        exact List.take_of_length_le (by simp [hxl, hl, Nat.add_mul])
theorem xs_appendS (hT : TabOk P T) {t e size bytes : Nat} {zs news : List Value} {x y : Operand} {v : Value} {k c m : Nat} {a : Addr} {xs : List Value} (hw : wantedE ops env g = true) (hsl : look t T.sls = some (e, size, bytes)) (hz : look e T.zs = some zs) (hzl : Nat.beq zs.length size = true)
    (hx : ev env x = v) (hy : ev env y = .slice (some a) c m) (hl : news.length = c * size) (hc0 : 0 < c) (hcs : ∀ (j : Nat) u, news[j]? = some u → w.cell? (a.add j) = some u) (h1 : ∀ u ∈ news, u.oneCell' = true) (hO : OwnS wb D H e size v k xs w)
    (hk : (k + c) * bytes ≤ 140737488355328) (hk' : k + c ≤ 9223372036854775807) (kk : ∀ v' w', OwnS wb D H e size v' (k + c) (xs ++ news) w' → v' ≠ .slice none 0 0 → XS P ops QE n rest (updO env d v') w') :
    XS P ops QE n (⟨d, .call { callee := .builtin .append, args := #[x, y], argTypes := #[t, t] }, ty, pos, aft, g⟩ :: rest) env w := by
  obtain ⟨hu, i, hi, hs1, hs2⟩ := sl_parts (hT.sl hsl)
  obtain ⟨i', z, hi', hz', hzc⟩ := z_parts (hT.z hz)
  rw [hi] at hi'; cases hi'
  obtain ⟨v', w', hr, h2, h3⟩ := append_many (P := P) (ty := ty) (m := m) hu hi hs1 hs2 hz' (by rw [hzc]; simpa using Nat.eq_of_beq_eq_true hzl) hO hl hc0 hcs h1 hk hk'
  refine XS.value hw (v := v') (w' := w') ?_ (kk v' w' h2 h3)
  simp [execOp, resolve, Sem.run_bind, invoke, builtin, hx, hy, hr]
theorem xs_buildSlice0 (hT : TabOk P T) {t e size bytes : Nat} (hw : wantedE ops env g = true) (hsl : look t T.sls = some (e, size, bytes)) (hs : St wb D H w)
    (k : ∀ v w', OwnS wb D H e size v 0 [] w' → v ≠ .slice none 0 0 → XS P ops QE n rest (updO env d v) w') :
    XS P ops QE n (⟨d, .buildSlice t 0 #[], ty, pos, aft, g⟩ :: rest) env w := by
  obtain ⟨hu, i, hi, hs1, hs2⟩ := sl_parts (hT.sl hsl)
  refine XS.value hw (w' := { w with heap := w.heap.push (.cells #[] e) }) (v := .slice (some ⟨w.heap.size, 0, none⟩) 0 0) ?_ (k _ _ (.inr ⟨w.heap.size, 0, [], rfl, Nat.le_refl _, by simp, by simp, by simp, hs.alloc _⟩) (by simp))
  simp only [execOp, Sem.run_bind, Instr.buildSlice, run_underlying' hu, Result.andThen_ok, sizeOf, run_typeInfo' hi, Sem.run_pure]
  simp [Instr.fill, newRow, newObj, Sem.run, Sem.run_bind]
  rw [show (Array.range 0).map (fun _ => (default : Value)) = #[] by simp [Array.range]]
theorem St.rebase (hs : St wb D H w) : St w D0 (H.map fun e => (e.1, e.2.1, false)) w where
  at_ := fun e he => by
    obtain ⟨e', he', rfl⟩ := List.mem_map.1 he
    exact hs.at_ e' he'
  nd := by rw [List.map_map]; exact hs.nd
  new := fun p hp h => by
    obtain ⟨e, he, rfl⟩ := List.mem_map.1 hp
    obtain ⟨e', he', rfl⟩ := List.mem_map.1 he
    cases h
  os := rfl
  tape := rfl
  output := rfl
  size := Nat.le_refl _
  frame := fun _ _ _ _ => rfl
  ro := by simp [D0]
  ap := by simp [D0]
end
theorem St.onlyF {wb w : World} {D : Ctx} {H : List Ent} (hs : St wb D H w) (F : List Nat) (hF : ∀ e ∈ H, e.2.2 = true ∨ e.1 ∈ F ∨ wb.heap[e.1]? = some e.2.1) (hD : ∀ k ∈ D.dirty, k ∈ F) : Only F wb w :=
  ⟨hs.os, hs.tape, hs.output, hs.size, fun k hk hn => by
    by_cases h1 : k ∈ H.map (·.1)
    · obtain ⟨e, he, rfl⟩ := List.mem_map.1 h1
      rcases hF e he with h | h | h
      · exact absurd hk (Nat.not_lt.2 (hs.new (e.1, e.2.2) (List.mem_map.2 ⟨e, he, rfl⟩) h))
      · exact absurd h hn
      · rw [hs.at_ e he, h]
    · exact hs.frame k hk (fun h => hn (hD k h)) h1⟩
theorem Only.step {w0 w1 w2 : World} {F G : List Nat} (h : Only F w0 w1) (k : Only G w1 w2) (hG : ∀ k ∈ G, k ∈ F ∨ w0.heap.size ≤ k) : Only F w0 w2 :=
  (h.trans k).mono fun k hk hm => by
    rcases List.mem_append.1 hm with hm | hm
    · exact hm
    · rcases hG k hm with h | h
      · exact h
      · omega
theorem blocks_ne {w : World} {a b : Nat} {ca cb : Array Value} {ta tb : TypeId} {fa fb : Nat × Nat} (h : w.heap[a]? = some (.cells ca ta fa)) (k : w.heap[b]? = some (.cells cb tb fb)) (hne : ta ≠ tb) : a ≠ b := fun e => by
  subst e
  rw [h] at k
  cases k
  exact hne rfl
end Go.Proofs.YtilajmcellffiaaGreatDoorX

namespace Go.Proofs.YtilajmcellffiaaGreatDoorX
open Go Go.RowKit
def SlV (w : World) (e k : Nat) (v : Value) (n : Nat) (xs : List Value) (G : List Nat) : Prop :=
  (v = .slice none 0 0 ∧ n = 0 ∧ xs = [] ∧ G = []) ∨
  ∃ (g cap : Nat) (cur : List Value), v = .slice (some ⟨g, 0, none⟩) n cap ∧ G = [g] ∧ n ≤ cap ∧ cur.length = cap * k ∧ xs.length = n * k ∧ cur.take (n * k) = xs ∧ w.heap[g]? = some (.cells cur.toArray e (0, 0))
section
variable {P : Program} {ops : Array Oper} {QE : Exit → Env → World → Prop} {n : Nat} {rest : List Oper} {env : Env} {w wb : World} {D : Ctx} {H : List Ent} {T : Tab}
  {d : Option Nat} {ty : Nat} {pos : String} {aft : Array Edge} {g : Option (Nat × Bool)}
theorem append_w {t e size bytes : Nat} (hu : P.underlying t = some (.slice e)) {i : TypeInfo} (hi : P.info? e = some i) (hs1 : i.size = size) (hs2 : i.bytes = bytes) {z : Value} (hz : i.zero = some z) (hzc : z.cells.size = size)
    {v : Value} {k : Nat} {xs news : List Value} {a : Addr} {c m : Nat} {G : List Nat} (hO : SlV w e size v k xs G) (hl : news.length = c * size) (hc0 : 0 < c) (hcs : ∀ (j : Nat) u, news[j]? = some u → w.cell? (a.add j) = some u) (h1 : ∀ u ∈ news, u.oneCell' = true)
    (hk : (k + c) * bytes ≤ 140737488355328) (hk' : k + c ≤ 9223372036854775807) :
    ∃ v' w', (Builtin.append_ #[t, t] ty #[v, .slice (some a) c m]).run P w = .ok v' w' ∧ (∃ G', SlV w' e size v' (k + c) (xs ++ news) G' ∧ ∀ i ∈ G', i ∈ G ∨ w.heap.size ≤ i) ∧ Only G w w' := by
  subst hs1 hs2
  have hcb : c * i.bytes ≤ 281474976710656 := by
    have := Nat.mul_le_mul_right i.bytes (show c ≤ k + c by omega)
    omega
  rcases hO with ⟨rfl, rfl, rfl, rfl⟩ | ⟨g, cap, cur, rfl, rfl, hc, hcl, hxl, htk, hg⟩
  · have hr := run_append_nil (P := P) w t ty e i z hu hi hz a c m news hl hcs hc0 (by omega) hcb
    have hs := (St.nil w).drew'.alloc (.cells (news.toArray ++ Builtin.zeroCells z.cells (grownCap w c 0 e - c)) e)
    refine ⟨_, _, hr, ⟨[w.heap.size], .inr ⟨w.heap.size, grownCap w c 0 e, (news.toArray ++ Builtin.zeroCells z.cells (grownCap w c 0 e - c)).toList, by rw [Nat.zero_add], rfl, by rw [Nat.zero_add]; exact grownCap_ge w c 0 e, ?_, ?_, ?_, hs.get At.head⟩, by simp⟩, hs.only0 rfl⟩
    · have := grownCap_ge w c 0 e
      simp only [Array.toList_append, List.length_append, zero_list, hzc, hl]
      rw [← Nat.add_mul]; congr 1; omega
    · rw [Nat.zero_add, List.nil_append, hl]
    · rw [List.nil_append, Nat.zero_add, Array.toList_append, List.take_append_of_le_length (by simp [hl])]
      exact List.take_of_length_le (by simp [hl])
  · have hs0 := (St.nil w).track hg (by simp)
    by_cases hroom : k + c ≤ cap
    · have hfit : k * i.size + news.length ≤ cur.toArray.size := by
        rw [hl, List.size_toArray, hcl, ← Nat.add_mul]; exact Nat.mul_le_mul_right _ hroom
      have hr := run_append_room (P := P) w t ty e i hu hi g k cap cur.toArray hg a c m news hl hcs h1 hroom hfit
      simp only [List.size_toArray] at hfit
      have hs := hs0.row At.head (cur.take (k * i.size) ++ news ++ cur.drop (k * i.size + news.length)).toArray
      refine ⟨_, _, hr, ⟨[g], .inr ⟨g, cap, (cur.take (k * i.size) ++ news ++ cur.drop (k * i.size + news.length)), rfl, rfl, hroom, ?_, ?_, ?_, hs.get At.head⟩, by simp⟩, hs.onlyF [g] (by simp) (by simp [D0])⟩
      · simp only [List.length_append, List.length_take, List.length_drop]
        omega
      · rw [List.length_append, hxl, hl, Nat.add_mul]
      · rw [List.append_assoc, ← List.append_assoc, htk, List.take_append_of_le_length (by rw [List.length_append, hxl, hl, Nat.add_mul]; exact Nat.le_refl _)]
        exact List.take_of_length_le (by rw [List.length_append, hxl, hl, Nat.add_mul]; exact Nat.le_refl _)
    · have hold : ∀ (j : Nat) u, xs[j]? = some u → w.cell? ((⟨g, 0, none⟩ : Addr).add j) = some u := fun j u hj => by
        rw [add_addr]
        rw [← htk, List.getElem?_take] at hj
        split at hj
        · simp [World.cell?, hg, hj]
        · cases hj
      have hr := run_append_grow (P := P) w t ty e i z hu hi hz ⟨g, 0, none⟩ k cap xs hxl hold a c m news hl hcs (by omega) (by omega) (growslice_fits (by omega) hk)
      have hge := grownCap_ge w (k + c) cap e
      have hs := hs0.drew'.alloc (.cells (xs.toArray ++ news.toArray ++ Builtin.zeroCells z.cells (grownCap w (k + c) cap e - (k + c))) e)
      refine ⟨_, _, hr, ⟨[w.heap.size], .inr ⟨w.heap.size, grownCap w (k + c) cap e, (xs.toArray ++ news.toArray ++ Builtin.zeroCells z.cells (grownCap w (k + c) cap e - (k + c))).toList, rfl, rfl, hge, ?_, ?_, ?_, hs.get At.head⟩, by simp⟩, hs.onlyF [g] (by simp) (by simp [D0])⟩
      · simp only [Array.toList_append, List.length_append, zero_list, hzc, hl, hxl]
        rw [← Nat.add_mul, ← Nat.add_mul]; congr 1; omega
      · rw [List.length_append, hxl, hl, Nat.add_mul]
      · rw [Array.toList_append, Array.toList_append, List.take_append_of_le_length (by simp [hxl, hl, Nat.add_mul])]
        exact List.take_of_length_le (by simp [hxl, hl, Nat.add_mul])
theorem xs_appendW (hT : TabOk P T) {t e size bytes : Nat} {zs news : List Value} {x y : Operand} {v : Value} {k c m : Nat} {a : Addr} {xs : List Value} {G : List Nat} (hw : wantedE ops env g = true) (hsl : look t T.sls = some (e, size, bytes)) (hz : look e T.zs = some zs) (hzl : Nat.beq zs.length size = true)
    (hx : ev env x = v) (hy : ev env y = .slice (some a) c m) (hl : news.length = c * size) (hc0 : 0 < c) (hcs : ∀ (j : Nat) u, news[j]? = some u → w.cell? (a.add j) = some u) (h1 : ∀ u ∈ news, u.oneCell' = true) (hO : SlV w e size v k xs G)
    (hk : (k + c) * bytes ≤ 140737488355328) (hk' : k + c ≤ 9223372036854775807) (kk : ∀ v' w', (∃ G', SlV w' e size v' (k + c) (xs ++ news) G' ∧ ∀ i ∈ G', i ∈ G ∨ w.heap.size ≤ i) → Only G w w' → XS P ops QE n rest (updO env d v') w') :
    XS P ops QE n (⟨d, .call { callee := .builtin .append, args := #[x, y], argTypes := #[t, t] }, ty, pos, aft, g⟩ :: rest) env w := by
  obtain ⟨hu, i, hi, hs1, hs2⟩ := sl_parts (hT.sl hsl)
  obtain ⟨i', z, hi', hz', hzc⟩ := z_parts (hT.z hz)
  rw [hi] at hi'; cases hi'
  obtain ⟨v', w', hr, h2, h3⟩ := append_w (P := P) (ty := ty) (m := m) hu hi hs1 hs2 hz' (by rw [hzc]; simpa using Nat.eq_of_beq_eq_true hzl) hO hl hc0 hcs h1 hk hk'
  refine XS.value hw (v := v') (w' := w') ?_ (kk v' w' h2 h3)
  simp [execOp, resolve, Sem.run_bind, invoke, builtin, hx, hy, hr]
end
theorem SlV.lt {w : World} {e k n : Nat} {v : Value} {xs : List Value} {G : List Nat} (h : SlV w e k v n xs G) : ∀ b ∈ G, b < w.heap.size := by
  rcases h with ⟨_, _, _, rfl⟩ | ⟨g, cap, cur, _, rfl, _, _, _, _, hg⟩
  · intro b hb; cases hb
  · intro b hb
    obtain rfl := List.mem_singleton.1 hb
    exact lt_of_block hg
theorem SlV.keep {w w' : World} {e k n : Nat} {v : Value} {xs : List Value} {G F : List Nat} (h : SlV w e k v n xs G) (ho : Only F w w') (hd : ∀ b ∈ G, b ∉ F) : SlV w' e k v n xs G := by
  rcases h with ⟨h1, h2, h3, h4⟩ | ⟨g, cap, cur, h1, rfl, h3, h4, h5, h6, hg⟩
  · exact .inl ⟨h1, h2, h3, h4⟩
  · exact .inr ⟨g, cap, cur, h1, rfl, h3, h4, h5, h6, ho.block hg (hd g List.mem_cons_self)⟩
end Go.Proofs.YtilajmcellffiaaGreatDoorX

namespace Go.Proofs.YtilajmcellffiaaGreatDoorX
open Go Go.RowKit
def LsAt (w : World) (E k : Nat) (v : Value) (xs : List (List Value)) : Prop :=
  ∃ ad cap, v = .slice ad xs.length cap ∧ (xs ≠ [] → ∃ (b off : Nat) (cs : List Value) (fz : Nat × Nat), ad = some ⟨b, off, none⟩ ∧ xs.length ≤ cap ∧ w.heap[b]? = some (.cells cs.toArray E fz) ∧ ∀ (i : Nat) x, xs[i]? = some x → Pick cs (off + i * k) k x)
theorem LsAt.nil (w : World) (E k : Nat) : LsAt w E k (.slice none 0 0) [] := ⟨none, 0, rfl, fun h => absurd rfl h⟩
theorem LsAt.keep {w w' : World} {E k : Nat} {v : Value} {xs : List (List Value)} {F : List Nat} (h : LsAt w E k v xs) (ho : Only F w w') (hF : ∀ b ∈ F, ∀ cs fz, w.heap[b]? ≠ some (.cells cs E fz)) : LsAt w' E k v xs := by
  obtain ⟨ad, cap, rfl, h⟩ := h
  refine ⟨ad, cap, rfl, fun hn => ?_⟩
  obtain ⟨b, off, cs, fz, h1, h2, h3, h4⟩ := h hn
  exact ⟨b, off, cs, fz, h1, h2, ho.block h3 (fun hm => hF b hm _ _ h3), h4⟩
theorem LsAt.only {w w' : World} {E k : Nat} {v : Value} {xs : List (List Value)} (h : LsAt w E k v xs) (ho : Only [] w w') : LsAt w' E k v xs := h.keep ho (by simp)
theorem pick_of {cs : List Value} : ∀ {vs : List Value} {off m : Nat}, vs.length = m → (cs.drop off).take m = vs → Pick cs off m vs
  | [], off, m, hm, h => by subst hm; exact .nil
  | v :: vs, off, m, hm, h => by
    subst hm
    have hlt : off < cs.length := by
      rcases Nat.lt_or_ge off cs.length with h' | h'
      · exact h'
      · rw [List.drop_eq_nil_of_le h'] at h; simp at h
    rw [List.drop_eq_getElem_cons hlt] at h
    simp only [List.length_cons, List.take_succ_cons, List.cons.injEq] at h
    exact .cons (by rw [List.getElem?_eq_getElem hlt, h.1]) (pick_of rfl h.2)
theorem flat_row {k : Nat} : ∀ {xs : List (List Value)} {i : Nat} {x : List Value}, (∀ y ∈ xs, y.length = k) → xs[i]? = some x → (xs.flatten.drop (i * k)).take k = x
  | [], i, x, _, h => by simp at h
  | y :: xs, 0, x, hk, h => by
    have h1 := hk y (by simp)
    simp only [List.getElem?_cons_zero, Option.some.injEq] at h
    subst h; subst h1
    simp
  | y :: xs, i + 1, x, hk, h => by
    have h1 := hk y (by simp)
    simp only [List.getElem?_cons_succ] at h
    have ih := flat_row (fun z hz => hk z (List.mem_cons_of_mem _ hz)) h
    rw [List.flatten_cons, List.drop_append, List.drop_eq_nil_of_le (by rw [h1, Nat.succ_mul]; omega), List.nil_append, h1, Nat.succ_mul, Nat.add_sub_cancel]
    exact ih
theorem SlV.ls {w : World} {E k n : Nat} {v : Value} {flat : List Value} {G : List Nat} (h : SlV w E k v n flat G) {xs : List (List Value)} (hf : flat = xs.flatten) (hn : n = xs.length) (hk : ∀ x ∈ xs, x.length = k) : LsAt w E k v xs := by
  subst hn
  rcases h with ⟨rfl, h0, hx, _⟩ | ⟨g, cap, cur, rfl, _, hc, hl, hxl, ht, hg⟩
  · have : xs = [] := by simpa using h0
    subst this
    exact LsAt.nil w E k
  · refine ⟨_, cap, rfl, fun _ => ⟨g, 0, cur, (0, 0), rfl, hc, hg, fun i x hi => ?_⟩⟩
    have hi' : i < xs.length := by
      rcases Nat.lt_or_ge i xs.length with h | h
      · exact h
      · rw [List.getElem?_eq_none h] at hi; cases hi
    have hxk := hk x (List.mem_of_getElem? hi)
    refine pick_of hxk ?_
    have e := flat_row hk hi
    rw [← hf, ← ht, List.drop_take, List.take_take, Nat.min_eq_left] at e
    · rw [Nat.zero_add]; exact e
    · rw [← Nat.sub_mul]
      exact Nat.le_mul_of_pos_left k (by omega)
def minL : List Int → Int
  | [] => 0
  | d :: l => l.foldl (fun a b => if b < a then b else a) d
def maxL : List Int → Int
  | [] => 0
  | d :: l => l.foldl (fun a b => if b > a then b else a) d
theorem minL_snoc (l : List Int) (d : Int) : minL (l ++ [d]) = if l = [] then d else if d < minL l then d else minL l := by
  cases l with
  | nil => rfl
  | cons a l => exact (List.foldl_append ..)
theorem maxL_snoc (l : List Int) (d : Int) : maxL (l ++ [d]) = if l = [] then d else if d > maxL l then d else maxL l := by
  cases l with
  | nil => rfl
  | cons a l => exact (List.foldl_append ..)
section
variable {ops : Array Oper} {QE : Exit → Env → World → Prop} {n : Nat} {rest : List Oper} {env : Env} {w wb : World} {d : Option Nat} {ty : Nat} {pos : String} {aft : Array Edge} {g : Option (Nat × Bool)}
theorem lhK {t b off m : Nat} {x : Operand} {cs vs : List Value} {E : TypeId} {fr : Nat × Nat} (hb : w.heap[b]? = some (.cells cs.toArray E fr)) (hc : Pick cs off (m + 1) vs) (hw : wantedE ops env g = true := by exact rfl) (ht : look t tab.tks = some (true, m + 1) := by exact rfl)
    (hp : ev env x = .pointer (some ⟨b, off, none⟩) := by exact rfl)
    (k : XS Tryz.prog ops QE n rest (updO env d (.agg vs.toArray)) w) : XS Tryz.prog ops QE n (⟨d, .load t x, ty, pos, aft, g⟩ :: rest) env w :=
  xs_val hw (by simp [execOp, hp, Instr.loadAt, Instr.sureAddr, Sem.run_bind, run_loadVar_agg (tabOk.tk ht) hb hc.le, hc.eq.2]) k
end
end Go.Proofs.YtilajmcellffiaaGreatDoorX

namespace Go.Proofs.YtilajmcellffiaaGreatDoorX
open Go Go.RowKit
attribute [local irreducible] XS XC XA thenE blockE retE loopE loopS cutB cutN doneE SE
theorem nx64 {i m : Nat} (h : i < m) (hm : m ≤ 9223372036854775807) : IntKind.i64.wrap ((i : Int) + 1) = ((i + 1 : Nat) : Int) := by
  rw [wrap_i64]; omega
def PsAt (w : World) (v : Value) (ps : List Pt) : Prop := LsAt w 27 3 v (ps.map Pt.cells)
def ItsAt (w : World) (v : Value) (l : List It) : Prop := LsAt w 29 7 v (l.map It.cells)
def sinces (base : Int) (ps : List Pt) : List Int := ps.map fun p => sn p.t base
theorem minL_in {l : List Int} (h : ∀ d ∈ l, In64 d) : In64 (minL l) := by
  cases l with
  | nil => decide
  | cons d l =>
    have : ∀ (l : List Int) (a : Int), In64 a → (∀ d ∈ l, In64 d) → In64 (l.foldl (fun a b => if b < a then b else a) a) := by
      intro l
      induction l with
      | nil => intro a ha _; exact ha
      | cons b l ih =>
        intro a ha hl
        refine ih _ ?_ (fun d hd => hl d (List.mem_cons_of_mem _ hd))
        show In64 (if b < a then b else a)
        split
        · exact hl b List.mem_cons_self
        · exact ha
    exact this l d (h d List.mem_cons_self) fun x hx => h x (List.mem_cons_of_mem _ hx)
theorem maxL_in {l : List Int} (h : ∀ d ∈ l, In64 d) : In64 (maxL l) := by
  cases l with
  | nil => decide
  | cons d l =>
    have : ∀ (l : List Int) (a : Int), In64 a → (∀ d ∈ l, In64 d) → In64 (l.foldl (fun a b => if b > a then b else a) a) := by
      intro l
      induction l with
      | nil => intro a ha _; exact ha
      | cons b l ih =>
        intro a ha hl
        refine ih _ ?_ (fun d hd => hl d (List.mem_cons_of_mem _ hd))
        show In64 (if b > a then b else a)
        split
        · exact hl b List.mem_cons_self
        · exact ha
    exact this l d (h d List.mem_cons_self) fun x hx => h x (List.mem_cons_of_mem _ hx)
theorem take_next {α : Type} {l : List α} {i : Nat} (h : i < l.length) : l.take (i + 1) = l.take i ++ [l[i]] := by simp
set_option maxHeartbeats 2000000 in
theorem floors_ret (base : Int) (ps : List Pt) (sl : Value) (hm : ps.length ≤ 9223372036854775807) (w0 : World) (hP : PsAt w0 sl ps) :
    Ret Tryz.prog 181 #[.int .u64 base, sl] w0 fun v w' => v = .tuple #[.int .i64 (minL (sinces base ps)), .int .i64 (maxL (sinces base ps))] ∧ Only [] w0 w' := by
  obtain ⟨ad, cap, rfl, hD⟩ := hP
  rw [List.length_map] at *
  have hs := St.nil w0
  refine ret_of_xc Tryz.func181 (by kernel_rfl) rfl Tryz.ntmps181 rfl rfl rfl ?_
  repeat' (first|refine vs (k:=?_)|refine qRg ?_|refine Nx.h ?_|fail)
  refine xc_cutB (fun (_ : Unit) => [(4, .int .i64 (minL (sinces base ps))), (5, .int .i64 (maxL (sinces base ps)))]) (fun _ w => St w0 D0 [] w) ?_ ?_
  · refine xc_loopS (fun (i : Nat) => [(0, .int .u64 base), (4, .int .i64 (minL (sinces base (ps.take i)))), (5, .int .i64 (maxL (sinces base (ps.take i)))), (9, .slice ad ps.length cap), (10, .int .i64 (ps.length : Nat)), (11, .int .i64 (i : Nat))])
      (fun i w => i ≤ ps.length ∧ St w0 D0 [] w) (fun i => ps.length - i) 0 (by (repeat (first | exact agree_nil | (apply agree_cons; exact rfl)))) ⟨Nat.zero_le _, hs⟩ fun i env w ⟨hi, hs⟩ => ?_
    repeat' (first|refine vs (k:=?_)|refine qRg ?_|refine Nx.h ?_|(refine xc_if rfl (fun hc=>?_) (fun hc=>?_))|fail)
    · have hlt : i < ps.length := by omega
      obtain ⟨b, off, cs, fz, rfl, _, hb, hcs⟩ := hD (fun h => by simp at h; subst h; cases hlt)
      have hpk := hcs i (Pt.cells ps[i]) (by rw [List.getElem?_map, List.getElem?_eq_getElem hlt]; rfl)
      have hnx : sinces base (ps.take (i + 1)) = sinces base (ps.take i) ++ [sn ps[i].t base] := by rw [take_next hlt]; unfold sinces; rw [List.map_append]; rfl
      have h0 : sinces base (ps.take i) = [] ↔ i = 0 := by
        unfold sinces
        rw [List.map_eq_nil_iff, List.take_eq_nil_iff]
        constructor
        · rintro (h | h)
          · exact h
          · subst h; simp at hlt
        · exact .inl
      have emin := minL_snoc (sinces base (ps.take i)) (sn ps[i].t base)
      have emax := maxL_snoc (sinces base (ps.take i)) (sn ps[i].t base)
      rw [← hnx] at emin emax
      have ei := nx64 hlt hm
      generalize ps[i] = p at *
      refine ix (h0 := (by omega)) (h1 := (by omega)) (k := ?_)
      refine lhK ((hs.only0 rfl).block hb (by simp)) hpk (k := ?_)
      refine al hs (k := ?_); intro b7 w hz hs
      repeat' (first|refine vs (k:=?_)|(refine stA hs (k:=?_);intro w hs)|refine qRg ?_|refine Nx.h ?_|fail)
      (with_reducible apply xs_call); exact rfl; exact rfl; exact since_ret p.t base _
      rintro v w' ⟨rfl, ho⟩; replace hs := hs.call0 ho; repeat' (first|refine vs (k:=?_)|refine qRg ?_|refine Nx.h ?_|(refine xc_if rfl (fun hc=>?_) (fun hc=>?_))|fail)
      · have hi0 : i = 0 := by omega
        rw [if_pos (h0.2 hi0)] at emin emax
        have e1 : (if sn p.t base < sn p.t base then sn p.t base else sn p.t base) = minL (sinces base (ps.take (i + 1))) := by rw [emin]; split <;> rfl
        have e2 : (if sn p.t base > sn p.t base then sn p.t base else sn p.t base) = maxL (sinces base (ps.take (i + 1))) := by rw [emax]; split <;> rfl
        exact loopS_next (i + 1) (by omega) (by (repeat (first | exact agree_nil | (apply agree_cons; first | exact rfl | exact congrArg (Value.int .i64) e1 | exact congrArg (Value.int .i64) e2 | exact congrArg (Value.int .i64) ei)))) ⟨by omega, hs.forgetNew⟩
      · have hi0 : ¬ i = 0 := by omega
        rw [if_neg (fun h => hi0 (h0.1 h))] at emin emax
        exact loopS_next (i + 1) (by omega) (by (repeat (first | exact agree_nil | (apply agree_cons; first | exact rfl | exact congrArg (Value.int .i64) emin.symm | exact congrArg (Value.int .i64) emax.symm | exact congrArg (Value.int .i64) ei)))) ⟨by omega, hs.forgetNew⟩
    · have e : i = ps.length := by omega
      rw [e, List.take_length]
      exact cutB_exit () (by (repeat (first | exact agree_nil | (apply agree_cons; exact rfl)))) hs
  · rintro _ env w hs
    repeat' (first|refine vs (k:=?_)|refine qRg ?_|refine Nx.h ?_|fail)
    first | refine rt (hq := ?_) | refine rt' (hq := ?_)
    exact ⟨rfl, hs.only0 rfl⟩
def soonest (a : It) (l : List It) : It := l.foldl (fun a b => bif due b a then b else a) a
theorem soonest_snoc (a : It) (l : List It) (b : It) : soonest a (l ++ [b]) = bif due b (soonest a l) then b else soonest a l := by unfold soonest; rw [List.foldl_append]; rfl
theorem soonest_in {a : It} (ha : a.In) : ∀ {l : List It}, (∀ b ∈ l, b.In) → (soonest a l).In := by
  intro l
  unfold soonest
  induction l generalizing a with
  | nil => intro _; exact ha
  | cons b l ih =>
    intro hl
    refine ih ?_ (fun c hc => hl c (List.mem_cons_of_mem _ hc))
    show (bif due b a then b else a).In
    cases due b a
    · exact ha
    · exact hl b List.mem_cons_self
set_option maxHeartbeats 2000000 in
theorem soonest_ret (x : It) (l : List It) (sl : Value) (hx : x.In) (hl : ∀ b ∈ l, b.In) (hm : l.length ≤ 9223372036854775807) (w0 : World) (hP : ItsAt w0 sl l) :
    Ret Tryz.prog 174 #[iv x, sl] w0 fun v w' => v = iv (soonest x l) ∧ Only [] w0 w' := by
  obtain ⟨ad, cap, rfl, hD⟩ := hP
  rw [List.length_map] at *
  have hs := St.nil w0
  refine ret_of_xc Tryz.func174 (by kernel_rfl) rfl Tryz.ntmps174 rfl rfl rfl ?_
  refine xc_seq ?_
  refine xc_region ?_ ?_; exact rfl
  refine bx hs (k := ?_); intro b2 w hz hs
  refine al hs (k := ?_); intro b4 w hz hs
  repeat' (first|refine vs (k:=?_)|refine qRg ?_|refine Nx.h ?_|fail)
  refine xc_cutB (fun (_ : Unit) => [(2, .pointer (some ⟨b2, 0, none⟩)), (4, .pointer (some ⟨b4, 0, none⟩))]) (fun _ w => St w0 D0 [(b4, .cells It.zero.cells.toArray 29, true), (b2, .cells (soonest x l).cells.toArray 29, true)] w) ?_ ?_
  · refine xc_loopS (fun (i : Nat) => [(2, .pointer (some ⟨b2, 0, none⟩)), (4, .pointer (some ⟨b4, 0, none⟩)), (7, .slice ad l.length cap), (8, .int .i64 (l.length : Nat)), (9, .int .i64 (i : Nat))])
      (fun i w => i ≤ l.length ∧ St w0 D0 [(b4, .cells It.zero.cells.toArray 29, true), (b2, .cells (soonest x (l.take i)).cells.toArray 29, true)] w) (fun i => l.length - i) 0 (by (repeat (first | exact agree_nil | (apply agree_cons; exact rfl)))) ⟨Nat.zero_le _, hs⟩ fun i env w ⟨hi, hs⟩ => ?_
    repeat' (first|refine vs (k:=?_)|refine qRg ?_|refine Nx.h ?_|(refine xc_if rfl (fun hc=>?_) (fun hc=>?_))|fail)
    · have hlt : i < l.length := by omega
      obtain ⟨b, off, cs, fz, rfl, _, hb, hcs⟩ := hD (fun h => by simp at h; subst h; cases hlt)
      have hpk := hcs i (It.cells l[i]) (by rw [List.getElem?_map, List.getElem?_eq_getElem hlt]; rfl)
      have hsn := soonest_snoc x (l.take i) l[i]
      rw [← take_next hlt] at hsn
      have hin := hl l[i] (List.getElem_mem hlt)
      have hin2 := soonest_in hx (l := l.take i) (fun c hc => hl c (List.mem_of_mem_take hc))
      have ei := nx64 hlt hm
      generalize l[i] = q at *
      generalize soonest x (l.take i) = y at *
      refine ix (h0 := (by omega)) (h1 := (by omega)) (k := ?_)
      refine lhK ((hs.only0 rfl).block hb (by simp)) hpk (k := ?_)
      refine al hs (k := ?_); intro b6 w hz hs
      repeat' (first|refine vs (k:=?_)|(refine stA hs (k:=?_);intro w hs)|refine qRg ?_|refine Nx.h ?_|fail)
      (with_reducible apply xs_call); exact rfl; exact rfl; exact due_ret q y hin hin2 _
      rintro v w' ⟨rfl, ho⟩; replace hs := hs.call0 ho; repeat' (first|refine vs (k:=?_)|(refine stA hs (k:=?_);intro w hs)|refine qRg ?_|refine Nx.h ?_|(refine xc_cond rfl (fun hc=>?_) (fun hc=>?_))|fail)
      · rw [hc, cond_true] at hsn
        exact loopS_next (i + 1) (by omega) (by (repeat (first | exact agree_nil | (apply agree_cons; first | exact rfl | exact congrArg (Value.int .i64) ei)))) ⟨by omega, by rw [hsn]; exact hs.forgetNew⟩
      · rw [hc, cond_false] at hsn
        exact loopS_next (i + 1) (by omega) (by (repeat (first | exact agree_nil | (apply agree_cons; first | exact rfl | exact congrArg (Value.int .i64) ei)))) ⟨by omega, by rw [hsn]; exact hs.forgetNew⟩
    · have e : i = l.length := by omega
      rw [e, List.take_length] at hs
      exact cutB_exit () (by (repeat (first | exact agree_nil | (apply agree_cons; exact rfl)))) hs
  · rintro _ env w hs
    repeat' (first|refine vs (k:=?_)|(refine stA hs (k:=?_);intro w hs)|refine qRg ?_|refine Nx.h ?_|fail)
    first | refine rt (hq := ?_) | refine rt' (hq := ?_)
    exact ⟨rfl, hs.only0 rfl⟩
end Go.Proofs.YtilajmcellffiaaGreatDoorX

namespace Go.Proofs.YtilajmcellffiaaGreatDoorX
open Go Go.RowKit
attribute [local irreducible] XS XC XA thenE blockE retE loopE loopS cutB cutN doneE SE
structure Mn where
  b : Int
  a : Int
  w : Int
  n : Int
deriving DecidableEq
abbrev Mn.cells (m : Mn) : List Value := [.int .u64 m.b, .int .i64 (m.a / 18446744073709551616), .int .u64 (m.a % 18446744073709551616), .int .u64 m.w, .int .i64 m.n]
def mv (m : Mn) : Value := .agg #[.int .u64 m.b, .int .i64 (m.a / 18446744073709551616), .int .u64 (m.a % 18446744073709551616), .int .u64 m.w, .int .i64 m.n]
def Mn.In (m : Mn) : Prop := U64 m.b ∧ InW m.a ∧ U64 m.w ∧ In64 m.n
instance (m : Mn) : Decidable m.In := by unfold Mn.In; infer_instance
def Mn.zero : Mn := ⟨0, 0, 0, 0⟩
def Mn.right (m : Mn) : Bool := bif decide (m.n = 0) then decide (m.w = 0) && decide (m.a = 0) else decide (0 < m.n) && decide (m.n ≤ 32) && decide (m.n ≤ m.w) && decide (m.w ≤ m.n * 1048576)
theorem eqW0 (x : Int) : (cellEq (.int .i64 (x / 18446744073709551616)) (.int .i64 0) && cellEq (.int .u64 (x % 18446744073709551616)) (.int .u64 0)) = decide (x = 0) := by
  show ((x / 18446744073709551616 == 0) && (x % 18446744073709551616 == 0)) = _
  by_cases h : x = 0
  · subst h; decide
  · rw [decide_eq_false h]
    cases h1 : (x / 18446744073709551616 == 0)
    · rfl
    · cases h2 : (x % 18446744073709551616 == 0)
      · rfl
      · simp only [beq_iff_eq] at h1 h2
        omega
set_option maxHeartbeats 2000000 in
theorem mright_ret (m : Mn) (w0 : World) : Ret Tryz.prog 113 #[mv m] w0 fun v w' => v = .bool m.right ∧ Only [] w0 w' := by
  have hs := St.nil w0
  refine ret_of_xc Tryz.func113 (by kernel_rfl) rfl Tryz.ntmps113 rfl rfl rfl ?_
  repeat' (first|refine vs (k:=?_)|refine ps (k:=?_)|(refine bx hs (k:=?_);intro b w hz hs)|refine qRg ?_|refine Nx.h ?_|((with_reducible apply xs_guard);exact rfl;exact rfl;intro c hc;(fail_if_success have:true=c:=hc);(fail_if_success have:false=c:=hc);cases c)|(refine xc_if rfl (fun hc=>?_) (fun hc=>?_))|fail)
  all_goals (first | refine rt (hq := ?_) | refine rt' (hq := ?_))
  all_goals refine ⟨?_, hs.only0 rfl⟩
  all_goals clear hs
  all_goals unfold Mn.right packed
  all_goals try rw [eqW0]
  all_goals simp only [wrap_u64] at *
  · rw [decide_eq_true ‹m.n = 0›, cond_true]; simp only [beq_eq_false_iff_ne, ne_eq] at hc; rw [decide_eq_false hc]; rfl
  · rw [decide_eq_true ‹m.n = 0›, cond_true]; simp only [beq_iff_eq] at hc; rw [decide_eq_true hc]; rfl
  · rw [decide_eq_false ‹¬ m.n = 0›, cond_false, hc]; rfl
  · rw [decide_eq_false ‹¬ m.n = 0›, cond_false, ‹decide (0 < m.n) = true›, hc]; rfl
  · have h1 := of_decide_eq_true ‹decide (0 < m.n) = true›
    have h2 := of_decide_eq_true ‹decide (m.n ≤ 32) = true›
    rw [show m.n % 18446744073709551616 = m.n by omega] at hc
    rw [decide_eq_false ‹¬ m.n = 0›, cond_false, ‹decide (0 < m.n) = true›, ‹decide (m.n ≤ 32) = true›, hc]; rfl
  · have h1 := of_decide_eq_true ‹decide (0 < m.n) = true›
    have h2 := of_decide_eq_true ‹decide (m.n ≤ 32) = true›
    rw [show m.n % 18446744073709551616 = m.n by omega] at hc
    rw [decide_eq_false ‹¬ m.n = 0›, cond_false, ‹decide (0 < m.n) = true›, ‹decide (m.n ≤ 32) = true›, hc, show m.n % 18446744073709551616 * 1048576 % 18446744073709551616 = m.n * 1048576 by omega]; rfl
theorem mright_iff {m : Mn} : m.right = true ↔ (m.n = 0 ∧ m.w = 0 ∧ m.a = 0) ∨ (0 < m.n ∧ m.n ≤ 32 ∧ m.n ≤ m.w ∧ m.w ≤ m.n * 1048576) := by
  unfold Mn.right
  by_cases h : m.n = 0
  · rw [decide_eq_true h, cond_true]; simp; omega
  · rw [decide_eq_false h, cond_false]; simp; omega
def mnV (o : Option Mn) : Value := .tuple #[mv (o.getD .zero), .bool o.isSome]
theorem pright_iff {p : Pt} : p.right = true ↔ 1 ≤ p.w ∧ p.w ≤ 1048576 ∧ p.r < p.w := by
  unfold Pt.right; rw [Bool.and_eq_true, mayW_iff, decide_eq_true_eq, and_assoc]
def addM (m : Mn) (p : Pt) : Option Mn := if m.right = true ∧ p.right = true ∧ m.n ≠ 32 ∧ InW (m.a + dist p m.b) then some ⟨m.b, m.a + dist p m.b, m.w + p.w, m.n + 1⟩ else none
theorem addM_in {m : Mn} {p : Pt} {o : Mn} (hm : m.In) (h : addM m p = some o) : o.In := by
  unfold addM at h
  split at h
  · rename_i hc
    cases h
    obtain ⟨h1, h2, h3, h4⟩ := hc
    have h1 := mright_iff.1 h1
    have h2 := pright_iff.1 h2
    refine ⟨hm.1, h4, ?_, ?_⟩
    · show 0 ≤ m.w + p.w ∧ m.w + p.w < 18446744073709551616; omega
    · show -9223372036854775808 ≤ m.n + 1 ∧ m.n + 1 < 9223372036854775808; omega
  · cases h
set_option maxHeartbeats 2000000 in
theorem madd_ret (m : Mn) (p : Pt) (hm : m.In) (hp' : p.In) (w0 : World) : Ret Tryz.prog 144 #[mv m, pv p] w0 fun v w' => v = mnV (addM m p) ∧ Only [] w0 w' := by
  have hs := St.nil w0
  refine ret_of_xc Tryz.func144 (by kernel_rfl) rfl Tryz.ntmps144 rfl rfl rfl ?_
  repeat' (first|refine vs (k:=?_)|(refine al hs (k:=?_);intro b w hz hs)|(refine bx hs (k:=?_);intro b w hz hs)|refine qRg ?_|refine Nx.h ?_|fail)
  (with_reducible apply xs_call); exact rfl; exact rfl; exact mright_ret m _
  rintro v w' ⟨rfl, ho⟩; replace hs := hs.call0 ho; repeat' (first|refine vs (k:=?_)|refine ps (k:=?_)|(refine stA hs (k:=?_);intro w hs)|refine qRg ?_|refine Nx.h ?_|refine qCt ?_|((with_reducible apply xs_guard);exact rfl;exact rfl;intro c hc;(fail_if_success have:true=c:=hc);(fail_if_success have:false=c:=hc);cases c)|fail)
  · (with_reducible apply xs_call); exact rfl; exact rfl; exact pright_ret p _
    rintro v w' ⟨rfl, ho⟩; replace hs := hs.call0 ho; repeat' (first|refine vs (k:=?_)|refine ps (k:=?_)|(refine stA hs (k:=?_);intro w hs)|refine qRg ?_|refine Nx.h ?_|refine qCt ?_|((with_reducible apply xs_guard);exact rfl;exact rfl;intro c hc;(fail_if_success have:true=c:=hc);(fail_if_success have:false=c:=hc);cases c)|(refine xc_if rfl (fun hc=>?_) (fun hc=>?_))|fail)
    · first | refine rt (hq := ?_) | refine rt' (hq := ?_)
      refine ⟨?_, hs.only0 rfl⟩
      have : addM m p = none := by unfold addM; rw [if_neg (fun h => h.2.2.1 ‹_›)]
      rw [this]; rfl
    · refine dr [] hs (k := ?_); intro hX w hs
      refine tk 0 hX (k := ?_)
      refine tk 1 hX (k := ?_)
      refine tk 2 hX (k := ?_)
      refine tk 3 hX (k := ?_)
      refine tk 4 hX (k := ?_)
      refine pd0 10 6 hs (k := ?_); intro f X w hp; have hs := hp.st
      apply xa_pend 5 10 (f := f) (X := X) hX hp; exact rfl; exact rfl; (first | (apply makes_alloc tabOk; exact rfl) | (apply makes_slice tabOk; exact rfl; exact rfl; exact rfl; exact rfl; exact rfl; (intro X; ((repeat (first | exact Bld.nil | (apply Bld.one; exact rfl; (conv => lhs; whnf); exact rfl; (repeat (first | exact PutL.nil | apply PutL.skip | apply PutL.cons))) | (apply Bld.agg; exact rfl; exact rfl; exact rfl; (repeat (first | exact PutL.nil | apply PutL.skip | apply PutL.cons))))))))); kernel_rfl; kernel_rfl; kernel_rfl; kernel_rfl; (intro X Y; (repeat (first | exact pgg_base | refine pgg_step ?_ (by exact rfl)))); (intro w' hs; ((first | exact se_hold hs.hold | exact se_hold (hold_sim hs.hold rfl) | exact se_hold (hold_sim hs.hold.tail rfl) | exact se_hold (hR hs rfl) | exact se_hold hs.hold.tail | exact se_hold hs.hold.tail.tail | exact se_hold hs.hold.tail.tail.tail | exact se_done rfl))); intro f X w hp; have hs := hp.st
      (with_reducible apply xs_call); exact rfl; exact rfl; exact dist_ret p m.b hp' _
      rintro v w' ⟨rfl, ho⟩; replace hp := hp.only ho; replace hs := hp.st; repeat' (first|refine Nx.h ?_|fail)
      refine dn (k := ?_)
      apply xa_pend 6 10 (f := f) (X := X) hX hp; exact rfl; exact rfl; (first | (apply makes_alloc tabOk; exact rfl) | (apply makes_slice tabOk; exact rfl; exact rfl; exact rfl; exact rfl; exact rfl; (intro X; ((repeat (first | exact Bld.nil | (apply Bld.one; exact rfl; (conv => lhs; whnf); exact rfl; (repeat (first | exact PutL.nil | apply PutL.skip | apply PutL.cons))) | (apply Bld.agg; exact rfl; exact rfl; exact rfl; (repeat (first | exact PutL.nil | apply PutL.skip | apply PutL.cons))))))))); kernel_rfl; kernel_rfl; kernel_rfl; kernel_rfl; (intro X Y; (repeat (first | exact pgg_base | refine pgg_step ?_ (by exact rfl)))); (intro w' hs; ((first | exact se_hold hs.hold | exact se_hold (hold_sim hs.hold rfl) | exact se_hold (hold_sim hs.hold.tail rfl) | exact se_hold (hR hs rfl) | exact se_hold hs.hold.tail | exact se_hold hs.hold.tail.tail | exact se_hold hs.hold.tail.tail.tail | exact se_done rfl))); intro f X w hp; have hs := hp.st
      (with_reducible apply xs_call); exact rfl; exact rfl; exact add_t m.a (dist p m.b) hm.2.1 (dist_in hp' _) _
      rintro v w' ⟨rfl, ho⟩; replace hp := hp.only ho; replace hs := hp.st; repeat' (first|refine Nx.h ?_|fail)
      refine dn (k := ?_)
      refine tk 7 hX (hc := by cases f <;> kernel_rfl) (k := ?_)
      refine tk 8 hX (hc := by cases f <;> kernel_rfl) (k := ?_)
      refine tk 9 hX (hc := by cases f <;> kernel_rfl) (k := ?_)
      apply xa_pendE 10 (f := f) (X := X) hX hp; exact rfl; (first | (apply makes_alloc tabOk; exact rfl) | (apply makes_slice tabOk; exact rfl; exact rfl; exact rfl; exact rfl; exact rfl; (intro X; ((repeat (first | exact Bld.nil | (apply Bld.one; exact rfl; (conv => lhs; whnf); exact rfl; (repeat (first | exact PutL.nil | apply PutL.skip | apply PutL.cons))) | (apply Bld.agg; exact rfl; exact rfl; exact rfl; (repeat (first | exact PutL.nil | apply PutL.skip | apply PutL.cons))))))))); kernel_rfl; kernel_rfl; (intro X Y; (repeat (first | exact pgg_base | refine pgg_step ?_ (by exact rfl)))); (intro w' hs; ((first | exact se_hold hs.hold | exact se_hold (hold_sim hs.hold rfl) | exact se_hold (hold_sim hs.hold.tail rfl) | exact se_hold (hR hs rfl) | exact se_hold hs.hold.tail | exact se_hold hs.hold.tail.tail | exact se_hold hs.hold.tail.tail.tail | exact se_done rfl))); intro b w hI hs
      refine dt 11 hX (k := ?_)
      repeat' (first|(refine stA hs (k:=?_);intro w hs)|refine Nx.h ?_|fail)
      refine dn (k := ?_)
      refine tk 12 hX (k := ?_)
      refine en (k := ?_)
      repeat' (first|refine vs (k:=?_)|(refine stA hs (k:=?_);intro w hs)|refine qRg ?_|refine Nx.h ?_|(refine xc_cond rfl (fun hc=>?_) (fun hc=>?_))|fail)
      · first | refine rt (hq := ?_) | refine rt' (hq := ?_)
        refine ⟨?_, hs.only0 rfl⟩
        have h4 : ¬ InW (m.a + dist p m.b) := by simpa using hc
        have : addM m p = none := by unfold addM; rw [if_neg (fun h => h4 h.2.2.2)]
        rw [this]; rfl
      · first | refine rt (hq := ?_) | refine rt' (hq := ?_)
        refine ⟨?_, hs.only0 rfl⟩
        have h4 : InW (m.a + dist p m.b) := by simpa using hc
        have h1 : m.right = true := by simpa using ‹(!m.right) = false›
        have h2 : p.right = true := by simpa using ‹(!p.right) = false›
        have : addM m p = some ⟨m.b, m.a + dist p m.b, m.w + p.w, m.n + 1⟩ := by unfold addM; rw [if_pos ⟨h1, h2, ‹_›, h4⟩]
        have h5 := mright_iff.1 h1
        have h6 := pright_iff.1 h2
        have e1 : tot (m.a + dist p m.b) = m.a + dist p m.b := if_pos h4
        have e2 : IntKind.u64.wrap (m.w + IntKind.u64.wrap p.w) = m.w + p.w := by simp only [wrap_u64]; omega
        have e3 : IntKind.i64.wrap (m.n + 1) = m.n + 1 := by simp only [wrap_i64]; omega
        rw [this, e1, e2, e3]; rfl
    · first | refine rt (hq := ?_) | refine rt' (hq := ?_)
      refine ⟨?_, hs.only0 rfl⟩
      have h2 : p.right = false := by simpa using hc
      have : addM m p = none := by unfold addM; rw [if_neg (fun h => by rw [h2] at h; cases h.2.1)]
      rw [this]; rfl
  · first | refine rt (hq := ?_) | refine rt' (hq := ?_)
    refine ⟨?_, hs.only0 rfl⟩
    have h2 : m.right = false := by simpa using hc
    have : addM m p = none := by unfold addM; rw [if_neg (fun h => by rw [h2] at h; cases h.1)]
    rw [this]; rfl
end Go.Proofs.YtilajmcellffiaaGreatDoorX

namespace Go.Proofs.YtilajmcellffiaaGreatDoorX
open Go Go.RowKit
attribute [local irreducible] XS XC XA thenE blockE retE loopE loopS cutB cutN doneE SE
def lessM (m : Mn) (p : Pt) : Mn := ⟨m.b, m.a - dist p m.b, m.w - p.w, m.n - 1⟩
def takM (m : Mn) (p : Pt) : Option Mn := if m.right = true ∧ p.right = true ∧ m.n ≠ 0 ∧ p.w ≤ m.w ∧ InW (m.a - dist p m.b) ∧ (lessM m p).right = true then some (lessM m p) else none
theorem takM_in {m : Mn} {p : Pt} {o : Mn} (hm : m.In) (h : takM m p = some o) : o.In := by
  unfold takM at h
  split at h
  · rename_i hc
    cases h
    obtain ⟨h1, h2, h3, h4, h5, h6⟩ := hc
    have h1 := mright_iff.1 h1
    have h2 := pright_iff.1 h2
    refine ⟨hm.1, h5, ?_, ?_⟩
    · show 0 ≤ m.w - p.w ∧ m.w - p.w < 18446744073709551616; omega
    · show -9223372036854775808 ≤ m.n - 1 ∧ m.n - 1 < 9223372036854775808; omega
  · cases h
set_option maxHeartbeats 4000000 in
theorem mtake_ret (m : Mn) (p : Pt) (hm : m.In) (hp' : p.In) (w0 : World) : Ret Tryz.prog 137 #[mv m, pv p] w0 fun v w' => v = mnV (takM m p) ∧ Only [] w0 w' := by
  have hs := St.nil w0
  refine ret_of_xc Tryz.func137 (by kernel_rfl) rfl Tryz.ntmps137 rfl rfl rfl ?_
  repeat' (first|refine vs (k:=?_)|(refine al hs (k:=?_);intro b w hz hs)|(refine bx hs (k:=?_);intro b w hz hs)|refine qRg ?_|refine Nx.h ?_|fail)
  (with_reducible apply xs_call); exact rfl; exact rfl; exact mright_ret m _
  rintro v w' ⟨rfl, ho⟩; replace hs := hs.call0 ho; repeat' (first|refine vs (k:=?_)|refine ps (k:=?_)|(refine stA hs (k:=?_);intro w hs)|refine qRg ?_|refine Nx.h ?_|refine qCt ?_|((with_reducible apply xs_guard);exact rfl;exact rfl;intro c hc;(fail_if_success have:true=c:=hc);(fail_if_success have:false=c:=hc);cases c)|fail)
  · (with_reducible apply xs_call); exact rfl; exact rfl; exact pright_ret p _
    rintro v w' ⟨rfl, ho⟩; replace hs := hs.call0 ho; repeat' (first|refine vs (k:=?_)|refine ps (k:=?_)|(refine stA hs (k:=?_);intro w hs)|refine qRg ?_|refine Nx.h ?_|refine qCt ?_|((with_reducible apply xs_guard);exact rfl;exact rfl;intro c hc;(fail_if_success have:true=c:=hc);(fail_if_success have:false=c:=hc);cases c)|(refine xc_if rfl (fun hc=>?_) (fun hc=>?_))|fail)
    · simp only [wrap_u64] at hc
      have hU := hp'.2.2
      unfold U32 at hU
      first | refine rt (hq := ?_) | refine rt' (hq := ?_)
      refine ⟨?_, hs.only0 rfl⟩
      have : takM m p = none := by unfold takM; rw [if_neg (fun h => by have := h.2.2.2.1; omega)]
      rw [this]; rfl
    · have h1 : m.right = true := by simpa using ‹(!m.right) = false›
      have h2 : p.right = true := by simpa using ‹(!p.right) = false›
      have h3 : m.n ≠ 0 := by simpa using ‹(m.n == 0) = false›
      have hU := hp'.2.2
      have e0 := u64_of32 hU
      have hc' : p.w ≤ m.w := by rw [e0] at hc; omega
      have h5 := mright_iff.1 h1
      have h6 := pright_iff.1 h2
      refine dr [] hs (k := ?_); intro hX w hs
      refine tk 0 hX (k := ?_)
      refine tk 1 hX (k := ?_)
      refine tk 2 hX (k := ?_)
      refine tk 3 hX (k := ?_)
      refine tk 4 hX (k := ?_)
      refine pd0 10 6 hs (k := ?_); intro f X w hp; have hs := hp.st
      apply xa_pend 5 10 (f := f) (X := X) hX hp; exact rfl; exact rfl; (first | (apply makes_alloc tabOk; exact rfl) | (apply makes_slice tabOk; exact rfl; exact rfl; exact rfl; exact rfl; exact rfl; (intro X; ((repeat (first | exact Bld.nil | (apply Bld.one; exact rfl; (conv => lhs; whnf); exact rfl; (repeat (first | exact PutL.nil | apply PutL.skip | apply PutL.cons))) | (apply Bld.agg; exact rfl; exact rfl; exact rfl; (repeat (first | exact PutL.nil | apply PutL.skip | apply PutL.cons))))))))); kernel_rfl; kernel_rfl; kernel_rfl; kernel_rfl; (intro X Y; (repeat (first | exact pgg_base | refine pgg_step ?_ (by exact rfl)))); (intro w' hs; ((first | exact se_hold hs.hold | exact se_hold (hold_sim hs.hold rfl) | exact se_hold (hold_sim hs.hold.tail rfl) | exact se_hold (hR hs rfl) | exact se_hold hs.hold.tail | exact se_hold hs.hold.tail.tail | exact se_hold hs.hold.tail.tail.tail | exact se_done rfl))); intro f X w hp; have hs := hp.st
      (with_reducible apply xs_call); exact rfl; exact rfl; exact dist_ret p m.b hp' _
      rintro v w' ⟨rfl, ho⟩; replace hp := hp.only ho; replace hs := hp.st; repeat' (first|refine Nx.h ?_|fail)
      refine dn (k := ?_)
      apply xa_pend 6 10 (f := f) (X := X) hX hp; exact rfl; exact rfl; (first | (apply makes_alloc tabOk; exact rfl) | (apply makes_slice tabOk; exact rfl; exact rfl; exact rfl; exact rfl; exact rfl; (intro X; ((repeat (first | exact Bld.nil | (apply Bld.one; exact rfl; (conv => lhs; whnf); exact rfl; (repeat (first | exact PutL.nil | apply PutL.skip | apply PutL.cons))) | (apply Bld.agg; exact rfl; exact rfl; exact rfl; (repeat (first | exact PutL.nil | apply PutL.skip | apply PutL.cons))))))))); kernel_rfl; kernel_rfl; kernel_rfl; kernel_rfl; (intro X Y; (repeat (first | exact pgg_base | refine pgg_step ?_ (by exact rfl)))); (intro w' hs; ((first | exact se_hold hs.hold | exact se_hold (hold_sim hs.hold rfl) | exact se_hold (hold_sim hs.hold.tail rfl) | exact se_hold (hR hs rfl) | exact se_hold hs.hold.tail | exact se_hold hs.hold.tail.tail | exact se_hold hs.hold.tail.tail.tail | exact se_done rfl))); intro f X w hp; have hs := hp.st
      (with_reducible apply xs_call); exact rfl; exact rfl; exact sub_t m.a (dist p m.b) hm.2.1 (dist_in hp' _) _
      rintro v w' ⟨rfl, ho⟩; replace hp := hp.only ho; replace hs := hp.st; repeat' (first|refine Nx.h ?_|fail)
      refine dn (k := ?_)
      refine tk 7 hX (hc := by cases f <;> kernel_rfl) (k := ?_)
      refine tk 8 hX (hc := by cases f <;> kernel_rfl) (k := ?_)
      refine tk 9 hX (hc := by cases f <;> kernel_rfl) (k := ?_)
      apply xa_pendE 10 (f := f) (X := X) hX hp; exact rfl; (first | (apply makes_alloc tabOk; exact rfl) | (apply makes_slice tabOk; exact rfl; exact rfl; exact rfl; exact rfl; exact rfl; (intro X; ((repeat (first | exact Bld.nil | (apply Bld.one; exact rfl; (conv => lhs; whnf); exact rfl; (repeat (first | exact PutL.nil | apply PutL.skip | apply PutL.cons))) | (apply Bld.agg; exact rfl; exact rfl; exact rfl; (repeat (first | exact PutL.nil | apply PutL.skip | apply PutL.cons))))))))); kernel_rfl; kernel_rfl; (intro X Y; (repeat (first | exact pgg_base | refine pgg_step ?_ (by exact rfl)))); (intro w' hs; ((first | exact se_hold hs.hold | exact se_hold (hold_sim hs.hold rfl) | exact se_hold (hold_sim hs.hold.tail rfl) | exact se_hold (hR hs rfl) | exact se_hold hs.hold.tail | exact se_hold hs.hold.tail.tail | exact se_hold hs.hold.tail.tail.tail | exact se_done rfl))); intro b w hI hs
      refine dt 11 hX (k := ?_)
      repeat' (first|(refine stA hs (k:=?_);intro w hs)|refine Nx.h ?_|fail)
      refine dn (k := ?_)
      refine tk 12 hX (k := ?_)
      refine en (k := ?_)
      repeat' (first|refine vs (k:=?_)|refine ps (k:=?_)|(refine stA hs (k:=?_);intro w hs)|(refine al hs (k:=?_);intro b w hz hs)|refine qRg ?_|refine Nx.h ?_|refine qCt ?_|((with_reducible apply xs_guard);exact rfl;exact rfl;intro c hc;(fail_if_success have:true=c:=hc);(fail_if_success have:false=c:=hc);cases c)|fail)
      · have h4 : InW (m.a - dist p m.b) := by simpa using hc
        have e1 : tot (m.a - dist p m.b) = m.a - dist p m.b := if_pos h4
        have e2 : IntKind.u64.wrap (m.w - IntKind.u64.wrap p.w) = m.w - p.w := by simp only [wrap_u64]; omega
        have e3 : IntKind.i64.wrap (m.n - 1) = m.n - 1 := by simp only [wrap_i64]; omega
        (with_reducible apply xs_call); exact rfl; exact rfl; exact mright_ret ⟨m.b, tot (m.a - dist p m.b), IntKind.u64.wrap (m.w - IntKind.u64.wrap p.w), IntKind.i64.wrap (m.n - 1)⟩ _
        rw [show (⟨m.b, tot (m.a - dist p m.b), IntKind.u64.wrap (m.w - IntKind.u64.wrap p.w), IntKind.i64.wrap (m.n - 1)⟩ : Mn) = lessM m p by rw [e1, e2, e3]; rfl]
        rintro v w' ⟨rfl, ho⟩; replace hs := hs.call0 ho; repeat' (first|refine vs (k:=?_)|(refine stA hs (k:=?_);intro w hs)|refine qRg ?_|refine Nx.h ?_|(refine xc_cond rfl (fun hc=>?_) (fun hc=>?_))|fail)
        · first | refine rt (hq := ?_) | refine rt' (hq := ?_)
          refine ⟨?_, hs.only0 rfl⟩
          have h7 : (lessM m p).right = false := by simpa using hc
          have : takM m p = none := by unfold takM; rw [if_neg (fun h => by rw [h7] at h; cases h.2.2.2.2.2)]
          rw [this]; rfl
        · first | refine rt (hq := ?_) | refine rt' (hq := ?_)
          refine ⟨?_, hs.only0 rfl⟩
          have h7 : (lessM m p).right = true := by simpa using hc
          have : takM m p = some (lessM m p) := by unfold takM; rw [if_pos ⟨h1, h2, h3, hc', h4, h7⟩]
          rw [this, e1, e2, e3]; rfl
      · first | refine rt (hq := ?_) | refine rt' (hq := ?_)
        refine ⟨?_, hs.only0 rfl⟩
        have h4 : ¬ InW (m.a - dist p m.b) := by simpa using hc
        have : takM m p = none := by unfold takM; rw [if_neg (fun h => h4 h.2.2.2.2.1)]
        rw [this]; rfl
    · first | refine rt (hq := ?_) | refine rt' (hq := ?_)
      refine ⟨?_, hs.only0 rfl⟩
      have : takM m p = none := by unfold takM; rw [if_neg (fun h => h.2.2.1 (by simpa using hc))]
      rw [this]; rfl
    · first | refine rt (hq := ?_) | refine rt' (hq := ?_)
      refine ⟨?_, hs.only0 rfl⟩
      have : takM m p = none := by unfold takM; rw [if_neg (fun h => absurd h.2.1 (by simpa using hc))]
      rw [this]; rfl
  · first | refine rt (hq := ?_) | refine rt' (hq := ?_)
    refine ⟨?_, hs.only0 rfl⟩
    have h2 : m.right = false := by simpa using hc
    have : takM m p = none := by unfold takM; rw [if_neg (fun h => by rw [h2] at h; cases h.1)]
    rw [this]; rfl
def rebM (m : Mn) (t : Int) : Option Mn := if m.right = true ∧ InW (m.a - m.w * sn t m.b) then some ⟨t, m.a - m.w * sn t m.b, m.w, m.n⟩ else none
theorem rebM_in {m : Mn} {t : Int} {o : Mn} (hm : m.In) (ht : U64 t) (h : rebM m t = some o) : o.In := by
  unfold rebM at h
  split at h
  · rename_i hc
    cases h
    exact ⟨ht, hc.2, hm.2.2⟩
  · cases h
set_option maxHeartbeats 4000000 in
theorem rebase_ret (m : Mn) (t : Int) (hm : m.In) (w0 : World) : Ret Tryz.prog 179 #[mv m, .int .u64 t] w0 fun v w' => v = mnV (rebM m t) ∧ Only [] w0 w' := by
  have hs := St.nil w0
  refine ret_of_xc Tryz.func179 (by kernel_rfl) rfl Tryz.ntmps179 rfl rfl rfl ?_
  repeat' (first|refine vs (k:=?_)|(refine al hs (k:=?_);intro b w hz hs)|(refine bx hs (k:=?_);intro b w hz hs)|refine qRg ?_|refine Nx.h ?_|fail)
  (with_reducible apply xs_call); exact rfl; exact rfl; exact mright_ret m _
  rintro v w' ⟨rfl, ho⟩; replace hs := hs.call0 ho; repeat' (first|refine vs (k:=?_)|(refine stA hs (k:=?_);intro w hs)|refine qRg ?_|refine Nx.h ?_|(refine xc_cond rfl (fun hc=>?_) (fun hc=>?_))|fail)
  · first | refine rt (hq := ?_) | refine rt' (hq := ?_)
    refine ⟨?_, hs.only0 rfl⟩
    have h2 : m.right = false := by simpa using hc
    have : rebM m t = none := by unfold rebM; rw [if_neg (fun h => by rw [h2] at h; cases h.1)]
    rw [this]; rfl
  · have h1 : m.right = true := by simpa using hc
    have h5 := mright_iff.1 h1
    have h6 := sn_rng t m.b
    have h7 := mul_rng (w := m.w) (s := sn t m.b) (W := 33554432) (S := 9223372036854775808) hm.2.2.1.1 (by omega) (by omega) (by omega)
    have hU := hm.2.2.1
    refine dr [] hs (k := ?_); intro hX w hs
    refine tk 0 hX (k := ?_)
    refine tk 1 hX (k := ?_)
    refine tk 3 hX (k := ?_)
    refine tk 4 hX (k := ?_)
    refine tk 5 hX (k := ?_)
    refine pd0 11 6 hs (k := ?_); intro f X w hp; have hs := hp.st
    apply xa_pend 2 11 (f := f) (X := X) hX hp; exact rfl; exact rfl; (first | (apply makes_alloc tabOk; exact rfl) | (apply makes_slice tabOk; exact rfl; exact rfl; exact rfl; exact rfl; exact rfl; (intro X; ((repeat (first | exact Bld.nil | (apply Bld.one; exact rfl; (conv => lhs; whnf); exact rfl; (repeat (first | exact PutL.nil | apply PutL.skip | apply PutL.cons))) | (apply Bld.agg; exact rfl; exact rfl; exact rfl; (repeat (first | exact PutL.nil | apply PutL.skip | apply PutL.cons))))))))); kernel_rfl; kernel_rfl; kernel_rfl; kernel_rfl; (intro X Y; (repeat (first | exact pgg_base | refine pgg_step ?_ (by exact rfl)))); (intro w' hs; ((first | exact se_hold hs.hold | exact se_hold (hold_sim hs.hold rfl) | exact se_hold (hold_sim hs.hold.tail rfl) | exact se_hold (hR hs rfl) | exact se_hold hs.hold.tail | exact se_hold hs.hold.tail.tail | exact se_hold hs.hold.tail.tail.tail | exact se_done rfl))); intro f X w hp; have hs := hp.st
    (with_reducible apply xs_call); exact rfl; exact rfl; exact ofU_ret m.w hU.1 hU.2 _
    rintro v w' ⟨rfl, ho⟩; replace hp := hp.only ho; replace hs := hp.st; repeat' (first|refine Nx.h ?_|fail)
    refine dn (k := ?_)
    apply xa_pend 6 11 (f := f) (X := X) hX hp; exact rfl; exact rfl; (first | (apply makes_alloc tabOk; exact rfl) | (apply makes_slice tabOk; exact rfl; exact rfl; exact rfl; exact rfl; exact rfl; (intro X; ((repeat (first | exact Bld.nil | (apply Bld.one; exact rfl; (conv => lhs; whnf); exact rfl; (repeat (first | exact PutL.nil | apply PutL.skip | apply PutL.cons))) | (apply Bld.agg; exact rfl; exact rfl; exact rfl; (repeat (first | exact PutL.nil | apply PutL.skip | apply PutL.cons))))))))); kernel_rfl; kernel_rfl; kernel_rfl; kernel_rfl; (intro X Y; (repeat (first | exact pgg_base | refine pgg_step ?_ (by exact rfl)))); (intro w' hs; ((first | exact se_hold hs.hold | exact se_hold (hold_sim hs.hold rfl) | exact se_hold (hold_sim hs.hold.tail rfl) | exact se_hold (hR hs rfl) | exact se_hold hs.hold.tail | exact se_hold hs.hold.tail.tail | exact se_hold hs.hold.tail.tail.tail | exact se_done rfl))); intro f X w hp; have hs := hp.st
    (with_reducible apply xs_call); exact rfl; exact rfl; exact since_ret t m.b _
    rintro v w' ⟨rfl, ho⟩; replace hp := hp.only ho; replace hs := hp.st; repeat' (first|refine Nx.h ?_|fail)
    refine dn (k := ?_)
    apply xa_pend 7 11 (f := f) (X := X) hX hp; exact rfl; exact rfl; (first | (apply makes_alloc tabOk; exact rfl) | (apply makes_slice tabOk; exact rfl; exact rfl; exact rfl; exact rfl; exact rfl; (intro X; ((repeat (first | exact Bld.nil | (apply Bld.one; exact rfl; (conv => lhs; whnf); exact rfl; (repeat (first | exact PutL.nil | apply PutL.skip | apply PutL.cons))) | (apply Bld.agg; exact rfl; exact rfl; exact rfl; (repeat (first | exact PutL.nil | apply PutL.skip | apply PutL.cons))))))))); kernel_rfl; kernel_rfl; kernel_rfl; kernel_rfl; (intro X Y; (repeat (first | exact pgg_base | refine pgg_step ?_ (by exact rfl)))); (intro w' hs; ((first | exact se_hold hs.hold | exact se_hold (hold_sim hs.hold rfl) | exact se_hold (hold_sim hs.hold.tail rfl) | exact se_hold (hR hs rfl) | exact se_hold hs.hold.tail | exact se_hold hs.hold.tail.tail | exact se_hold hs.hold.tail.tail.tail | exact se_done rfl))); intro f X w hp; have hs := hp.st
    (with_reducible apply xs_call); exact rfl; exact rfl; exact mul_ok m.w (sn t m.b) (by unfold InW; omega) (by omega) (by omega) (by unfold InW; omega) _
    rintro v w' ⟨rfl, ho⟩; replace hp := hp.only ho; replace hs := hp.st; repeat' (first|refine Nx.h ?_|fail)
    refine dn (k := ?_)
    refine tk 8 hX (hc := by cases f <;> kernel_rfl) (k := ?_)
    refine tk 9 hX (hc := by cases f <;> kernel_rfl) (k := ?_)
    refine tk 10 hX (hc := by cases f <;> kernel_rfl) (k := ?_)
    apply xa_pendE 11 (f := f) (X := X) hX hp; exact rfl; (first | (apply makes_alloc tabOk; exact rfl) | (apply makes_slice tabOk; exact rfl; exact rfl; exact rfl; exact rfl; exact rfl; (intro X; ((repeat (first | exact Bld.nil | (apply Bld.one; exact rfl; (conv => lhs; whnf); exact rfl; (repeat (first | exact PutL.nil | apply PutL.skip | apply PutL.cons))) | (apply Bld.agg; exact rfl; exact rfl; exact rfl; (repeat (first | exact PutL.nil | apply PutL.skip | apply PutL.cons))))))))); kernel_rfl; kernel_rfl; (intro X Y; (repeat (first | exact pgg_base | refine pgg_step ?_ (by exact rfl)))); (intro w' hs; ((first | exact se_hold hs.hold | exact se_hold (hold_sim hs.hold rfl) | exact se_hold (hold_sim hs.hold.tail rfl) | exact se_hold (hR hs rfl) | exact se_hold hs.hold.tail | exact se_hold hs.hold.tail.tail | exact se_hold hs.hold.tail.tail.tail | exact se_done rfl))); intro b w hI hs
    refine dt 12 hX (k := ?_)
    repeat' (first|(refine stA hs (k:=?_);intro w hs)|refine Nx.h ?_|fail)
    refine dn (k := ?_)
    refine tk 13 hX (k := ?_)
    refine en (k := ?_)
    repeat' (first|refine vs (k:=?_)|refine qRg ?_|refine Nx.h ?_|fail)
    (with_reducible apply xs_call); exact rfl; exact rfl; exact sub_t m.a (m.w * sn t m.b) hm.2.1 (by unfold InW; omega) _
    rintro v w' ⟨rfl, ho⟩; replace hs := hs.call0 ho; repeat' (first|refine vs (k:=?_)|(refine stA hs (k:=?_);intro w hs)|(refine al hs (k:=?_);intro b w hz hs)|refine qRg ?_|refine Nx.h ?_|(refine xc_cond rfl (fun hc=>?_) (fun hc=>?_))|fail)
    · first | refine rt (hq := ?_) | refine rt' (hq := ?_)
      refine ⟨?_, hs.only0 rfl⟩
      have h4 : ¬ InW (m.a - m.w * sn t m.b) := by simpa using hc
      have : rebM m t = none := by unfold rebM; rw [if_neg (fun h => h4 h.2)]
      rw [this]; rfl
    · first | refine rt (hq := ?_) | refine rt' (hq := ?_)
      refine ⟨?_, hs.only0 rfl⟩
      have h4 : InW (m.a - m.w * sn t m.b) := by simpa using hc
      have : rebM m t = some ⟨t, m.a - m.w * sn t m.b, m.w, m.n⟩ := by unfold rebM; rw [if_pos ⟨h1, h4⟩]
      have e1 : tot (m.a - m.w * sn t m.b) = m.a - m.w * sn t m.b := if_pos h4
      rw [this, e1]; rfl
def flM (m : Mn) : Option Int := if m.right = true ∧ m.n ≠ 0 ∧ In64 (m.a / m.w) then some (lat m.b (m.a / m.w)) else none
def tmV (o : Option Int) : Value := .tuple #[.int .u64 (o.getD 0), .bool o.isSome]
set_option maxHeartbeats 2000000 in
theorem floor_ret (m : Mn) (hm : m.In) (w0 : World) : Ret Tryz.prog 69 #[mv m] w0 fun v w' => v = tmV (flM m) ∧ Only [] w0 w' := by
  have hs := St.nil w0
  refine ret_of_xc Tryz.func69 (by kernel_rfl) rfl Tryz.ntmps69 rfl rfl rfl ?_
  repeat' (first|refine vs (k:=?_)|(refine bx hs (k:=?_);intro b w hz hs)|refine qRg ?_|refine Nx.h ?_|fail)
  (with_reducible apply xs_call); exact rfl; exact rfl; exact mright_ret m _
  rintro v w' ⟨rfl, ho⟩; replace hs := hs.call0 ho; repeat' (first|refine vs (k:=?_)|refine ps (k:=?_)|refine qRg ?_|refine Nx.h ?_|refine qCt ?_|((with_reducible apply xs_guard);exact rfl;exact rfl;intro c hc;(fail_if_success have:true=c:=hc);(fail_if_success have:false=c:=hc);cases c)|(refine xc_if rfl (fun hc=>?_) (fun hc=>?_))|fail)
  · first | refine rt (hq := ?_) | refine rt' (hq := ?_)
    refine ⟨?_, hs.only0 rfl⟩
    have : flM m = none := by unfold flM; rw [if_neg (fun h => h.2.1 ‹_›)]
    rw [this]; rfl
  · have h1 : m.right = true := by simpa using ‹(!m.right) = false›
    have h5 := mright_iff.1 h1
    have hU := hm.2.2.1
    (with_reducible apply xs_call); exact rfl; exact rfl; exact div_ok m.a m.w hm.2.1 (by omega) hU.2 _
    rintro v w' ⟨rfl, ho⟩; replace hs := hs.call0 ho; repeat' (first|refine vs (k:=?_)|(refine stA hs (k:=?_);intro w hs)|(refine al hs (k:=?_);intro b w hz hs)|refine qRg ?_|refine Nx.h ?_|fail)
    (with_reducible apply xs_call); exact rfl; exact rfl; exact small_t (m.a / m.w) (div_in hm.2.1 (by omega)) _
    rintro v w' ⟨rfl, ho⟩; replace hs := hs.call0 ho; repeat' (first|refine vs (k:=?_)|refine qRg ?_|refine Nx.h ?_|(refine xc_cond rfl (fun hc=>?_) (fun hc=>?_))|fail)
    · first | refine rt (hq := ?_) | refine rt' (hq := ?_)
      refine ⟨?_, hs.only0 rfl⟩
      have h4 : ¬ In64 (m.a / m.w) := by simpa using hc
      have : flM m = none := by unfold flM; rw [if_neg (fun h => h4 h.2.2)]
      rw [this]; rfl
    · have h4 : In64 (m.a / m.w) := by simpa using hc
      (with_reducible apply xs_call); exact rfl; exact rfl; exact vadd_ret m.b (sml (m.a / m.w)) _
      rintro v w' ⟨rfl, ho⟩; replace hs := hs.call0 ho; repeat' (first|refine vs (k:=?_)|refine Nx.h ?_|fail)
      first | refine rt (hq := ?_) | refine rt' (hq := ?_)
      refine ⟨?_, hs.only0 rfl⟩
      have : flM m = some (lat m.b (m.a / m.w)) := by unfold flM; rw [if_pos ⟨h1, ‹_›, h4⟩]
      have e1 : sml (m.a / m.w) = m.a / m.w := if_pos h4
      rw [this, e1]; rfl
  · first | refine rt (hq := ?_) | refine rt' (hq := ?_)
    refine ⟨?_, hs.only0 rfl⟩
    have h2 : m.right = false := by simpa using hc
    have : flM m = none := by unfold flM; rw [if_neg (fun h => by rw [h2] at h; cases h.1)]
    rw [this]; rfl
theorem inW0 : InW 0 := by decide
theorem u640 : U64 0 := by decide
theorem in640 : In64 0 := by decide
def ofL : Mn → List Pt → Option Mn
  | m, [] => some m
  | m, p :: ps => (addM m p).bind fun m => ofL m ps
def ofM (base : Int) (ps : List Pt) : Option Mn := ofL ⟨base, 0, 0, 0⟩ ps
theorem ofL_snoc : ∀ (l : List Pt) (m : Mn) (p : Pt), ofL m (l ++ [p]) = (ofL m l).bind fun m => addM m p
  | [], m, p => by
    simp only [List.nil_append, ofL, Option.bind_some]
    cases addM m p <;> rfl
  | q :: l, m, p => by
    simp only [List.cons_append, ofL]
    cases addM m q with
    | none => rfl
    | some m' => exact ofL_snoc l m' p
theorem ofL_none : ∀ (l r : List Pt) (m : Mn), ofL m l = none → ofL m (l ++ r) = none
  | [], r, m, h => by simp [ofL] at h
  | q :: l, r, m, h => by
    simp only [List.cons_append, ofL] at h ⊢
    cases h1 : addM m q with
    | none => rfl
    | some m' => rw [h1] at h; exact ofL_none l r m' h
set_option maxHeartbeats 4000000 in
theorem of_mean_ret (base : Int) (ps : List Pt) (sl : Value) (hbase : U64 base) (hps : ∀ p ∈ ps, p.In) (hlen : ps.length ≤ 9223372036854775807) (w0 : World) (hP : PsAt w0 sl ps) :
    Ret Tryz.prog 247 #[.int .u64 base, sl] w0 fun v w' => v = mnV (ofM base ps) ∧ Only [] w0 w' := by
  obtain ⟨ad, cap, rfl, hD⟩ := hP
  rw [List.length_map] at *
  have hs := St.nil w0
  refine ret_of_xc Tryz.func247 (by kernel_rfl) rfl Tryz.ntmps247 rfl rfl rfl ?_
  refine xc_seq ?_
  refine xc_region ?_ ?_; exact rfl
  refine al hs (k := ?_); intro b4 w hz hs
  repeat' (first|refine vs (k:=?_)|refine Nx.h ?_|fail)
  refine xc_region ?_ ?_; exact rfl
  refine vs (k := ?_)
  refine vs (k := ?_)
  refine al hs (k := ?_); intro b6 w hz hs
  repeat' (first|refine vs (k:=?_)|(refine stA hs (k:=?_);intro w hs)|refine qRg ?_|refine Nx.h ?_|fail)
  refine xc_cutB (fun (_ : Mn) => [(4, .pointer (some ⟨b4, 0, none⟩)), (6, .pointer (some ⟨b6, 0, none⟩))]) (fun m w => ofM base ps = some m ∧ St w0 D0 [(b6, .cells m.cells.toArray 130, true), (b4, .cells Mn.zero.cells.toArray 130, true)] w) ?_ ?_
  · refine xc_loopS (fun (s : Nat × Mn) => [(4, .pointer (some ⟨b4, 0, none⟩)), (6, .pointer (some ⟨b6, 0, none⟩)), (13, .slice ad ps.length cap), (14, .int .i64 (ps.length : Nat)), (15, .int .i64 (s.1 : Nat))])
      (fun s w => s.1 ≤ ps.length ∧ ofM base (ps.take s.1) = some s.2 ∧ s.2.In ∧ St w0 D0 [(b6, .cells s.2.cells.toArray 130, true), (b4, .cells Mn.zero.cells.toArray 130, true)] w)
      (fun s => ps.length - s.1) (0, ⟨base, 0, 0, 0⟩) (by (repeat (first | exact agree_nil | (apply agree_cons; exact rfl)))) ⟨Nat.zero_le _, rfl, ⟨hbase, inW0, u640, in640⟩, hs⟩ fun s env w ⟨hi, ho, hin, hs⟩ => ?_
    obtain ⟨i, m⟩ := s
    simp only at hi ho hin
    repeat' (first|refine vs (k:=?_)|refine qRg ?_|refine Nx.h ?_|(refine xc_if rfl (fun hc=>?_) (fun hc=>?_))|fail)
    · have hlt : i < ps.length := by omega
      obtain ⟨b, off, cs, fz, rfl, _, hb, hcs⟩ := hD (fun h => by have := congrArg List.length h; rw [List.length_map, List.length_nil] at this; omega)
      have hpk := hcs i (Pt.cells ps[i]) (by rw [List.getElem?_map, List.getElem?_eq_getElem hlt]; rfl)
      have hpin := hps ps[i] (List.getElem_mem hlt)
      have ei := nx64 hlt hlen
      have hsn : ofM base (ps.take (i + 1)) = addM m ps[i] := by rw [take_next hlt]; unfold ofM at ho ⊢; rw [ofL_snoc, ho]; rfl
      have hno : addM m ps[i] = none → ofM base ps = none := fun h => by
        have := ofL_none (ps.take (i + 1)) (ps.drop (i + 1)) ⟨base, 0, 0, 0⟩ (by rw [show ofL ⟨base, 0, 0, 0⟩ (ps.take (i + 1)) = ofM base (ps.take (i + 1)) from rfl, hsn, h])
        rwa [List.take_append_drop] at this
      generalize ps[i] = p at *
      refine ix (h0 := (by omega)) (h1 := (by omega)) (k := ?_)
      refine lhK ((hs.only0 rfl).block hb (by simp)) hpk (k := ?_)
      refine al hs (k := ?_); intro b8 w hz hs
      repeat' (first|refine vs (k:=?_)|(refine stA hs (k:=?_);intro w hs)|refine qRg ?_|refine Nx.h ?_|fail)
      (with_reducible apply xs_call); exact rfl; exact rfl; exact madd_ret m p hin hpin _
      cases ha : addM m p with
      | none =>
        rintro v w' ⟨rfl, ho⟩; replace hs := hs.call0 ho; repeat' (first|refine vs (k:=?_)|(refine stA hs (k:=?_);intro w hs)|(refine al hs (k:=?_);intro b w hz hs)|refine qRg ?_|refine Nx.h ?_|refine qCt ?_|fail)
        first | refine rt (hq := ?_) | refine rt' (hq := ?_)
        refine ⟨?_, hs.only0 rfl⟩
        rw [hno ha]; rfl
      | some m' =>
        rintro v w' ⟨rfl, ho⟩; replace hs := hs.call0 ho; repeat' (first|refine vs (k:=?_)|(refine stA hs (k:=?_);intro w hs)|(refine al hs (k:=?_);intro b w hz hs)|refine qRg ?_|refine Nx.h ?_|refine qCf ?_|fail)
        rw [ha] at hsn
        exact loopS_next (i + 1, m') (by show ps.length - (i + 1) < ps.length - i; omega) (by (repeat (first | exact agree_nil | (apply agree_cons; first | exact rfl | exact congrArg (Value.int .i64) ei)))) ⟨by show i + 1 ≤ ps.length; omega, hsn, addM_in hin ha, hs.forgetNew.forgetNew⟩
    · have hc' : ¬ ((i : Int) < ps.length) := hc
      have e : i = ps.length := by omega
      rw [e, List.take_length] at ho
      exact cutB_exit m (by (repeat (first | exact agree_nil | (apply agree_cons; exact rfl)))) ⟨ho, hs⟩
  · rintro m env w ⟨ho, hs⟩
    repeat' (first|refine vs (k:=?_)|(refine stA hs (k:=?_);intro w hs)|refine qRg ?_|refine Nx.h ?_|fail)
    first | refine rt (hq := ?_) | refine rt' (hq := ?_)
    refine ⟨?_, hs.only0 rfl⟩
    rw [ho]; rfl
end Go.Proofs.YtilajmcellffiaaGreatDoorX

namespace Go.Proofs.YtilajmcellffiaaGreatDoorX
def sumD (b : Int) : List It → Int
  | [] => 0
  | a :: l => dist a.p b + sumD b l
def sumW : List It → Int
  | [] => 0
  | a :: l => a.p.w + sumW l
theorem sumD_perm {b : Int} {l l' : List It} (h : l.Perm l') : sumD b l = sumD b l' := by
  induction h with
  | nil => rfl
  | cons _ _ ih => simp only [sumD, ih]
  | swap _ _ _ => simp only [sumD]; omega
  | trans _ _ h1 h2 => rw [h1, h2]
theorem sumW_perm {l l' : List It} (h : l.Perm l') : sumW l = sumW l' := by
  induction h with
  | nil => rfl
  | cons _ _ ih => simp only [sumW, ih]
  | swap _ _ _ => simp only [sumW]; omega
  | trans _ _ h1 h2 => rw [h1, h2]
theorem sum_rng {b lo hi : Int} : ∀ {l : List It}, (∀ x ∈ l, x.In ∧ x.right = true ∧ lo ≤ sn x.p.t b ∧ sn x.p.t b ≤ hi) → sumW l * lo ≤ sumD b l ∧ sumD b l + l.length ≤ sumW l * (hi + 1) ∧ (l.length : Int) ≤ sumW l ∧ sumW l ≤ l.length * 1048576
  | [], _ => by simp [sumD, sumW]
  | a :: l, h => by
    obtain ⟨h1, h2, h3, h4⟩ := sum_rng fun x hx => h x (List.mem_cons_of_mem _ hx)
    obtain ⟨k1, k2, k3, k4⟩ := h a List.mem_cons_self
    obtain ⟨_, _, _, _, _, _, ⟨w1, w2, w3, w4⟩, _⟩ := iright_all k1 k2
    have m1 : a.p.w * lo ≤ a.p.w * sn a.p.t b := Int.mul_le_mul_of_nonneg_left k3 (by omega)
    have m2 : a.p.w * sn a.p.t b ≤ a.p.w * hi := Int.mul_le_mul_of_nonneg_left k4 (by omega)
    simp only [sumD, sumW, dist, List.length_cons, Int.add_mul, Int.mul_add, Int.mul_one] at *
    omega
theorem Win.rng {b lo : Int} {x : It} (h : Win b lo x) (hm : Mid lo) : x.In ∧ x.right = true ∧ lo ≤ sn x.p.t b ∧ sn x.p.t b ≤ lo + 4611686018427387904 := ⟨h.isin, h.right, h.low, (h.dead hm).2.2⟩
structure IsM (m : Mn) (l : List It) : Prop where
  a : m.a = sumD m.b l
  w : m.w = sumW l
  n : m.n = l.length
theorem IsM.perm {m : Mn} {l l' : List It} (h : IsM m l) (p : l.Perm l') : IsM m l' := ⟨h.a.trans (sumD_perm p), h.w.trans (sumW_perm p), by rw [h.n, p.length_eq]⟩
def AllW (b lo : Int) (l : List It) : Prop := Mid lo ∧ l.length ≤ 32 ∧ ∀ x ∈ l, Win b lo x
theorem AllW.sum {b lo : Int} {l : List It} (h : AllW b lo l) : sumW l * lo ≤ sumD b l ∧ sumD b l + l.length ≤ sumW l * (lo + 4611686018427387904 + 1) ∧ (l.length : Int) ≤ sumW l ∧ sumW l ≤ l.length * 1048576 := sum_rng fun x hx => (h.2.2 x hx).rng h.1
theorem AllW.inW {b lo : Int} {l : List It} (h : AllW b lo l) : InW (sumD b l) := by
  obtain ⟨h1, h2, h3, h4⟩ := h.sum
  obtain ⟨⟨m1, m2⟩, hl, _⟩ := h
  have k1 : sumW l * (-4611686018427387904) ≤ sumW l * lo := Int.mul_le_mul_of_nonneg_left m1 (by omega)
  have k2 : sumW l * (lo + 4611686018427387904 + 1) ≤ sumW l * 4611686018427387905 := Int.mul_le_mul_of_nonneg_left (by omega) (by omega)
  unfold InW; omega
theorem AllW.right {m : Mn} {lo : Int} {l : List It} (h : AllW m.b lo l) (k : IsM m l) : m.right = true := by
  obtain ⟨h1, h2, h3, h4⟩ := h.sum
  have hl := h.2.1
  rw [mright_iff]
  have e1 := k.a
  have e2 := k.w
  have e3 := k.n
  cases l with
  | nil => left; simp only [sumD, sumW, List.length_nil] at *; omega
  | cons x l => right; simp only [List.length_cons] at *; omega
theorem AllW.perm {b lo : Int} {l l' : List It} (h : AllW b lo l) (p : l.Perm l') : AllW b lo l' := ⟨h.1, by rw [← p.length_eq]; exact h.2.1, fun x hx => h.2.2 x (p.mem_iff.2 hx)⟩
theorem AllW.tail {b lo : Int} {a : It} {l : List It} (h : AllW b lo (a :: l)) : AllW b lo l := ⟨h.1, by have := h.2.1; simp only [List.length_cons] at this; omega, fun x hx => h.2.2 x (List.mem_cons_of_mem _ hx)⟩
theorem AllW.head {b lo : Int} {a : It} {l : List It} (h : AllW b lo (a :: l)) : Win b lo a := h.2.2 a List.mem_cons_self
theorem add_is {m : Mn} {lo : Int} {a : It} {l : List It} (h : AllW m.b lo (a :: l)) (k : IsM m l) : ∃ m', addM m a.p = some m' ∧ m'.b = m.b ∧ IsM m' (a :: l) := by
  have hr := h.tail.right k
  have hp := (iright_all h.head.isin h.head.right).1
  have hw := h.inW
  have hl := h.2.1
  have e1 := k.a
  have e2 := k.w
  have e3 := k.n
  simp only [List.length_cons] at hl
  simp only [sumD] at hw
  refine ⟨_, if_pos ⟨hr, hp, by omega, by rw [e1, Int.add_comm]; exact hw⟩, rfl, ?_⟩
  constructor
  · simp only [sumD]; omega
  · simp only [sumW]; omega
  · simp only [List.length_cons]; omega
theorem take_is {m : Mn} {lo : Int} {a : It} {l : List It} (h : AllW m.b lo (a :: l)) (k : IsM m (a :: l)) : takM m a.p = some (lessM m a.p) ∧ IsM (lessM m a.p) l := by
  have hr := h.right k
  have hp := (iright_all h.head.isin h.head.right).1
  have hw := h.tail.inW
  have e1 := k.a
  have e2 := k.w
  have e3 := k.n
  have hs := h.tail.sum.2.2.1
  simp only [sumD, sumW, List.length_cons] at e1 e2 e3
  have i : IsM (lessM m a.p) l := ⟨by simp only [lessM]; omega, by simp only [lessM]; omega, by simp only [lessM]; omega⟩
  refine ⟨if_pos ⟨hr, hp, by omega, by omega, ?_, (show AllW (lessM m a.p).b lo l from h.tail).right i⟩, i⟩
  rw [show m.a - dist a.p m.b = sumD m.b l by omega]; exact hw
theorem AllW.mid {b lo : Int} {l : List It} (h : AllW b lo l) (hl : l ≠ []) : 0 < sumW l ∧ lo ≤ sumD b l / sumW l ∧ sumD b l / sumW l ≤ lo + 4611686018427387904 := by
  obtain ⟨h1, h2, h3, h4⟩ := h.sum
  have hp : 0 < l.length := List.length_pos_iff.2 hl
  refine ⟨by omega, Int.le_ediv_of_mul_le (by omega) (by rw [Int.mul_comm]; exact h1), ?_⟩
  have := Int.ediv_lt_of_lt_mul (a := sumD b l) (b := lo + 4611686018427387904 + 1) (c := sumW l) (by omega) (by rw [Int.mul_comm]; omega)
  omega
theorem floor_is {m : Mn} {lo : Int} {l : List It} (h : AllW m.b lo l) (k : IsM m l) (hl : l ≠ []) : flM m = some (lat m.b (sumD m.b l / sumW l)) := by
  obtain ⟨h1, h2, h3⟩ := h.mid hl
  have hm := h.1
  unfold Mid at hm
  have hn : m.n ≠ 0 := by rw [k.n]; have := List.length_pos_iff.2 hl; omega
  unfold flM
  rw [← k.a, ← k.w] at *
  exact if_pos ⟨h.right k, hn, by unfold In64; omega⟩
theorem sumD_move {b c k : Int} : ∀ {l : List It}, (∀ x ∈ l, sn x.p.t c = sn x.p.t b - k) → sumD c l = sumD b l - sumW l * k
  | [], _ => by simp [sumD, sumW]
  | a :: l, h => by
    simp only [sumD, sumW]
    rw [sumD_move fun x hx => h x (List.mem_cons_of_mem _ hx), dist_move (h a List.mem_cons_self), Int.add_mul]; omega
structure Cen (m : Mn) (l : List It) : Prop where
  is : IsM m l
  u : U64 m.b
  a0 : 0 ≤ m.a
  a1 : m.a < m.w
  all : ∃ lo, AllW m.b lo l
theorem AllW.move {b lo c : Int} {l : List It} (h : AllW b lo l) (h0 : lo ≤ sn c b) (h1 : sn c b ≤ lo + 4611686018427387904) : AllW c (lo - sn c b) l ∧ ∀ x ∈ l, sn x.p.t c = sn x.p.t b - sn c b := by
  have hm := h.1
  unfold Mid at hm
  exact ⟨⟨by unfold Mid; omega, h.2.1, fun x hx => ((h.2.2 x hx).move h.1 h0 h1).1⟩, fun x hx => ((h.2.2 x hx).move h.1 h0 h1).2⟩
theorem centre_is {m : Mn} {lo : Int} {l : List It} (h : AllW m.b lo l) (k : IsM m l) (hl : l ≠ []) : ∃ m', rebM m ((flM m).getD 0) = some m' ∧ Cen m' l := by
  obtain ⟨h1, h2, h3⟩ := h.mid hl
  have hm := h.1
  have hf := floor_is h k hl
  rw [hf, Option.getD_some]
  unfold Mid at hm
  have e : sn (lat m.b (sumD m.b l / sumW l)) m.b = sumD m.b l / sumW l := sn_lat (by unfold In64; omega)
  have hM := h.move (c := lat m.b (sumD m.b l / sumW l)) (by rw [e]; exact h2) (by rw [e]; exact h3)
  rw [e] at hM
  have hs := sumD_move hM.2
  have ea := k.a
  have ew := k.w
  have em : m.a - m.w * (sumD m.b l / sumW l) = sumD m.b l % sumW l := by rw [ea, ew]; have := Int.mul_ediv_add_emod (sumD m.b l) (sumW l); omega
  have n0 := Int.emod_nonneg (sumD m.b l) (show sumW l ≠ 0 by omega)
  have n1 := Int.emod_lt_of_pos (sumD m.b l) h1
  have hi : InW (sumD m.b l % sumW l) := by
    have := h.sum.2.2.2
    have := h.2.1
    unfold InW; omega
  refine ⟨_, if_pos ⟨h.right k, by rw [e, em]; exact hi⟩, ⟨⟨?_, ew, k.n⟩, lat_in _ _, ?_, ?_, _, hM.1⟩⟩
  · show m.a - m.w * sn _ m.b = sumD _ l
    rw [e, hs, ea, ew]
  · show 0 ≤ m.a - m.w * sn _ m.b
    rw [e, em]; exact n0
  · show m.a - m.w * sn _ m.b < m.w
    rw [e, em, ew]; exact n1
theorem Cen.now {m : Mn} {l : List It} (h : Cen m l) (hl : l ≠ []) : flM m = some m.b := by
  obtain ⟨lo, k⟩ := h.all
  rw [floor_is k h.is hl, ← h.is.a, ← h.is.w, Int.ediv_eq_zero_of_lt h.a0 h.a1, lat_zero h.u]
def meanL : List It → Mn
  | [] => .zero
  | x :: l => ⟨lat x.p.t (sumD x.p.t (x :: l) / sumW (x :: l)), sumD x.p.t (x :: l) % sumW (x :: l), sumW (x :: l), (x :: l).length⟩
theorem Cen.perm {m : Mn} {l l' : List It} (h : Cen m l) (p : l.Perm l') : Cen m l' := by
  obtain ⟨lo, k⟩ := h.all
  exact ⟨h.is.perm p, h.u, h.a0, h.a1, lo, k.perm p⟩
theorem Cen.eq {m : Mn} : ∀ {l : List It}, Cen m l → l ≠ [] → m = meanL l
  | [], _, h => absurd rfl h
  | x :: l, h, _ => by
    obtain ⟨lo, k⟩ := h.all
    have d := k.head.dead k.1
    have hM := k.move (c := x.p.t) k.head.low d.2.2
    have hs := sumD_move hM.2
    have e := lat_sn (b := m.b) k.head.isin.1.1
    show m = ⟨lat x.p.t (sumD x.p.t (x :: l) / sumW (x :: l)), sumD x.p.t (x :: l) % sumW (x :: l), sumW (x :: l), (x :: l).length⟩
    rw [hs, ← h.is.a, ← h.is.w, ← h.is.n]
    have hw : 0 < m.w := by have := h.a0; have := h.a1; omega
    have q : (m.a - m.w * sn x.p.t m.b) / m.w = - sn x.p.t m.b := by
      rw [Int.sub_eq_add_neg, ← Int.mul_neg, Int.add_mul_ediv_left _ _ (by omega), Int.ediv_eq_zero_of_lt h.a0 h.a1]; omega
    have r : (m.a - m.w * sn x.p.t m.b) % m.w = m.a := by
      rw [Int.sub_eq_add_neg, ← Int.mul_neg, Int.add_mul_emod_self_left, Int.emod_eq_of_lt h.a0 h.a1]
    rw [q, r]
    have : lat x.p.t (- sn x.p.t m.b) = m.b := by
      have hu := h.u
      have := e
      unfold U64 at hu
      unfold lat at *; omega
    rw [this]
end Go.Proofs.YtilajmcellffiaaGreatDoorX
