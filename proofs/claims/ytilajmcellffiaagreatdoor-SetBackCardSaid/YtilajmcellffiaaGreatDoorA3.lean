/- A part of the proof: what its functions compute. -/
import Derived.Test.YtilajmcellffiaaGreatDoorA2
import Derived.Maps.OwnSet
set_option linter.unusedVariables false
set_option linter.unusedSimpArgs false
set_option maxRecDepth 100000
namespace Go.Proofs.YtilajmcellffiaaGreatDoorX
open Go Go.RowKit
attribute [local irreducible] XS XC XA thenE blockE retE loopE loopS cutB cutN doneE SE
structure Pt where
  t : Int
  r : Int
  w : Int
deriving DecidableEq
abbrev Pt.cells (p : Pt) : List Value := [.int .u64 p.t, .int .u32 p.r, .int .u32 p.w]
def pv (p : Pt) : Value := .agg #[.int .u64 p.t, .int .u32 p.r, .int .u32 p.w]
def U64 (x : Int) : Prop := 0 ≤ x ∧ x < 18446744073709551616
def U32 (x : Int) : Prop := 0 ≤ x ∧ x < 4294967296
instance (x : Int) : Decidable (U64 x) := by unfold U64; infer_instance
instance (x : Int) : Decidable (U32 x) := by unfold U32; infer_instance
def Pt.In (p : Pt) : Prop := U64 p.t ∧ U32 p.r ∧ U32 p.w
instance (p : Pt) : Decidable p.In := by unfold Pt.In; infer_instance
def sn (t u : Int) : Int := (t - u + 9223372036854775808) % 18446744073709551616 - 9223372036854775808
theorem sn_rng (t u : Int) : -9223372036854775808 ≤ sn t u ∧ sn t u < 9223372036854775808 := by unfold sn; omega
theorem sn_in (t u : Int) : In64 (sn t u) := sn_rng t u
def lat (t d : Int) : Int := (t + d) % 18446744073709551616
theorem lat_in (t d : Int) : U64 (lat t d) := by unfold lat U64; omega
theorem int_cong {k : IntKind} {a b : Int} (h : a = b) : packed [Value.int k a] = .int k b := by rw [h]; rfl
theorem since_ret (t u : Int) (w0 : World) : Ret Tryz.prog 140 #[.int .u64 t, .int .u64 u] w0 fun v w' => v = .int .i64 (sn t u) ∧ Only [] w0 w' := by
  have hs := St.nil w0
  refine ret_of_xc Tryz.func140 (by kernel_rfl) rfl Tryz.ntmps140 rfl rfl rfl ?_
  repeat' (first|refine vs (k:=?_)|refine qRg ?_|refine Nx.h ?_|fail)
  first | refine rt (hq := ?_) | refine rt' (hq := ?_)
  refine ⟨int_cong ?_, hs.only0 rfl⟩
  simp only [wrap_u64, wrap_i64, sn]; omega
theorem vadd_ret (t d : Int) (w0 : World) : Ret Tryz.prog 116 #[.int .u64 t, .int .i64 d] w0 fun v w' => v = .int .u64 (lat t d) ∧ Only [] w0 w' := by
  have hs := St.nil w0
  refine ret_of_xc Tryz.func116 (by kernel_rfl) rfl Tryz.ntmps116 rfl rfl rfl ?_
  repeat' (first|refine vs (k:=?_)|refine qRg ?_|refine Nx.h ?_|fail)
  first | refine rt (hq := ?_) | refine rt' (hq := ?_)
  refine ⟨int_cong ?_, hs.only0 rfl⟩
  simp only [wrap_u64, wrap_i64, lat]; omega
def mayW (w : Int) : Bool := decide (1 ≤ w) && decide (w ≤ 1048576)
theorem weight_ret (w : Int) (w0 : World) : Ret Tryz.prog 180 #[.int .u32 w] w0 fun v w' => v = .bool (mayW w) ∧ Only [] w0 w' := by
  have hs := St.nil w0
  refine ret_of_xc Tryz.func180 (by kernel_rfl) rfl Tryz.ntmps180 rfl rfl rfl ?_
  repeat' (first|refine vs (k:=?_)|refine ps (k:=?_)|refine qRg ?_|refine Nx.h ?_|((with_reducible apply xs_guard);exact rfl;exact rfl;intro c hc;(fail_if_success have:true=c:=hc);(fail_if_success have:false=c:=hc);cases c)|fail)
  all_goals (first | refine rt (hq := ?_) | refine rt' (hq := ?_))
  all_goals refine ⟨?_, hs.only0 rfl⟩
  · unfold mayW; have := of_decide_eq_false hc; simp only [packed]; congr 1; simp; omega
  · unfold mayW; have := of_decide_eq_true hc; simp only [packed]; congr 1; simp; omega
def Pt.right (p : Pt) : Bool := mayW p.w && decide (p.r < p.w)
theorem pright_ret (p : Pt) (w0 : World) : Ret Tryz.prog 141 #[pv p] w0 fun v w' => v = .bool p.right ∧ Only [] w0 w' := by
  have hs := St.nil w0
  refine ret_of_xc Tryz.func141 (by kernel_rfl) rfl Tryz.ntmps141 rfl rfl rfl ?_
  repeat' (first|refine vs (k:=?_)|(refine bx hs (k:=?_);intro b w hz hs)|refine qRg ?_|refine Nx.h ?_|fail)
  (with_reducible apply xs_call); exact rfl; exact rfl; exact weight_ret _ _
  rintro v w' ⟨rfl, ho⟩; replace hs := hs.call0 ho; repeat' (first|refine vs (k:=?_)|refine ps (k:=?_)|refine Nx.h ?_|((with_reducible apply xs_guard);exact rfl;exact rfl;intro c hc;(fail_if_success have:true=c:=hc);(fail_if_success have:false=c:=hc);cases c)|fail)
  all_goals (first | refine rt (hq := ?_) | refine rt' (hq := ?_))
  all_goals refine ⟨?_, hs.only0 rfl⟩
  · unfold Pt.right; rw [hc]; rfl
  · unfold Pt.right; rw [hc]; rfl
theorem mul_rng {w s W S : Int} (h0 : 0 ≤ w) (h1 : w ≤ W) (h2 : -S ≤ s) (h3 : s ≤ S) : -(W * S) ≤ w * s ∧ w * s ≤ W * S := by
  have hS : 0 ≤ S := by omega
  have a : w * S ≤ W * S := Int.mul_le_mul_of_nonneg_right h1 hS
  have b : w * s ≤ w * S := Int.mul_le_mul_of_nonneg_left h3 h0
  have c : w * (-S) ≤ w * s := Int.mul_le_mul_of_nonneg_left h2 h0
  rw [Int.mul_neg] at c
  omega
theorem u64_id {x : Int} (h : U64 x) : IntKind.u64.wrap x = x := by rw [wrap_u64]; unfold U64 at h; omega
theorem u64_of32 {x : Int} (h : U32 x) : IntKind.u64.wrap x = x := by rw [wrap_u64]; unfold U32 at h; omega
theorem wrap_u32 (n : Int) : IntKind.u32.wrap n = n % 4294967296 := by simp [IntKind.wrap, IntKind.signed, IntKind.bits]
theorem u32_id {x : Int} (h : U32 x) : IntKind.u32.wrap x = x := by rw [wrap_u32]; unfold U32 at h; omega
theorem ofU32_ret (x : Int) (h : U32 x) (w0 : World) : Ret Tryz.prog 202 #[.int .u64 (IntKind.u64.wrap x)] w0 fun v w' => v = wv x ∧ Only [] w0 w' := by
  rw [u64_of32 h]; unfold U32 at h; exact ofU_ret x (by omega) (by omega) w0
def dist (p : Pt) (base : Int) : Int := p.w * sn p.t base + p.r
theorem dist_rng {p : Pt} (h : p.In) (base : Int) : -(4294967296 * 9223372036854775808) ≤ p.w * sn p.t base ∧ p.w * sn p.t base ≤ 4294967296 * 9223372036854775808 :=
  mul_rng h.2.2.1 (Int.le_of_lt h.2.2.2) (by have := sn_rng p.t base; omega) (by have := sn_rng p.t base; omega)
theorem dist_in {p : Pt} (h : p.In) (base : Int) : InW (dist p base) := by
  have h1 := dist_rng h base
  obtain ⟨_, ⟨h2, h3⟩, _⟩ := h
  unfold dist InW; omega
theorem tell_in {x : Int} (h : InW x) : tellV x = .tuple #[wv x, .bool true] := if_pos h
theorem dist_ret (p : Pt) (base : Int) (h : p.In) (w0 : World) : Ret Tryz.prog 157 #[pv p, .int .u64 base] w0 fun v w' => v = wv (dist p base) ∧ Only [] w0 w' := by
  have h1 := dist_rng h base
  have h4 := dist_in h base
  obtain ⟨⟨ht0, ht1⟩, ⟨hr0, hr1⟩, hw0, hw1⟩ := h
  have h2 := sn_rng p.t base
  have hs := St.nil w0
  refine ret_of_xc Tryz.func157 (by kernel_rfl) rfl Tryz.ntmps157 rfl rfl rfl ?_
  repeat' (first|(refine al hs (k:=?_);intro b w hz hs)|(refine bx hs (k:=?_);intro b w hz hs)|refine qRg ?_|refine Nx.h ?_|fail)
  refine dr [] hs (k := ?_); intro hX w hs
  refine tk 0 hX (k := ?_)
  refine tk 1 hX (k := ?_)
  refine tk 2 hX (k := ?_)
  refine tk 4 hX (k := ?_)
  refine tk 5 hX (k := ?_)
  refine tk 6 hX (k := ?_)
  refine pd0 12 5 hs (k := ?_); intro f X w hp; have hs := hp.st
  apply xa_pend 3 12 (f := f) (X := X) hX hp; exact rfl; exact rfl; (first | (apply makes_alloc tabOk; exact rfl) | (apply makes_slice tabOk; exact rfl; exact rfl; exact rfl; exact rfl; exact rfl; (intro X; ((repeat (first | exact Bld.nil | (apply Bld.one; exact rfl; (conv => lhs; whnf); exact rfl; (repeat (first | exact PutL.nil | apply PutL.skip | apply PutL.cons))) | (apply Bld.agg; exact rfl; exact rfl; exact rfl; (repeat (first | exact PutL.nil | apply PutL.skip | apply PutL.cons))))))))); kernel_rfl; kernel_rfl; kernel_rfl; kernel_rfl; (intro X Y; (repeat (first | exact pgg_base | refine pgg_step ?_ (by exact rfl)))); (intro w' hs; ((first | exact se_hold hs.hold | exact se_hold (hold_sim hs.hold rfl) | exact se_hold (hold_sim hs.hold.tail rfl) | exact se_hold (hR hs rfl) | exact se_hold hs.hold.tail | exact se_hold hs.hold.tail.tail | exact se_hold hs.hold.tail.tail.tail | exact se_done rfl))); intro f X w hp; have hs := hp.st
  (with_reducible apply xs_call); exact rfl; exact rfl; exact ofU32_ret p.w ⟨hw0, hw1⟩ _
  rintro v w' ⟨rfl, ho⟩; replace hp := hp.only ho; replace hs := hp.st; repeat' (first|refine Nx.h ?_|fail)
  refine dn (k := ?_)
  apply xa_pend 7 12 (f := f) (X := X) hX hp; exact rfl; exact rfl; (first | (apply makes_alloc tabOk; exact rfl) | (apply makes_slice tabOk; exact rfl; exact rfl; exact rfl; exact rfl; exact rfl; (intro X; ((repeat (first | exact Bld.nil | (apply Bld.one; exact rfl; (conv => lhs; whnf); exact rfl; (repeat (first | exact PutL.nil | apply PutL.skip | apply PutL.cons))) | (apply Bld.agg; exact rfl; exact rfl; exact rfl; (repeat (first | exact PutL.nil | apply PutL.skip | apply PutL.cons))))))))); kernel_rfl; kernel_rfl; kernel_rfl; kernel_rfl; (intro X Y; (repeat (first | exact pgg_base | refine pgg_step ?_ (by exact rfl)))); (intro w' hs; ((first | exact se_hold hs.hold | exact se_hold (hold_sim hs.hold rfl) | exact se_hold (hold_sim hs.hold.tail rfl) | exact se_hold (hR hs rfl) | exact se_hold hs.hold.tail | exact se_hold hs.hold.tail.tail | exact se_hold hs.hold.tail.tail.tail | exact se_done rfl))); intro f X w hp; have hs := hp.st
  (with_reducible apply xs_call); exact rfl; exact rfl; exact since_ret p.t base _
  rintro v w' ⟨rfl, ho⟩; replace hp := hp.only ho; replace hs := hp.st; repeat' (first|refine Nx.h ?_|fail)
  refine dn (k := ?_)
  apply xa_pend 8 12 (f := f) (X := X) hX hp; exact rfl; exact rfl; (first | (apply makes_alloc tabOk; exact rfl) | (apply makes_slice tabOk; exact rfl; exact rfl; exact rfl; exact rfl; exact rfl; (intro X; ((repeat (first | exact Bld.nil | (apply Bld.one; exact rfl; (conv => lhs; whnf); exact rfl; (repeat (first | exact PutL.nil | apply PutL.skip | apply PutL.cons))) | (apply Bld.agg; exact rfl; exact rfl; exact rfl; (repeat (first | exact PutL.nil | apply PutL.skip | apply PutL.cons))))))))); kernel_rfl; kernel_rfl; kernel_rfl; kernel_rfl; (intro X Y; (repeat (first | exact pgg_base | refine pgg_step ?_ (by exact rfl)))); (intro w' hs; ((first | exact se_hold hs.hold | exact se_hold (hold_sim hs.hold rfl) | exact se_hold (hold_sim hs.hold.tail rfl) | exact se_hold (hR hs rfl) | exact se_hold hs.hold.tail | exact se_hold hs.hold.tail.tail | exact se_hold hs.hold.tail.tail.tail | exact se_done rfl))); intro f X w hp; have hs := hp.st
  (with_reducible apply xs_call); exact rfl; exact rfl; exact mul_ret p.w (sn p.t base) (by unfold InW; omega) (by omega) (by omega) _
  rw [tell_in (by unfold InW; omega)]
  rintro v w' ⟨rfl, ho⟩; replace hp := hp.only ho; replace hs := hp.st; repeat' (first|refine Nx.h ?_|fail)
  refine dn (k := ?_)
  refine tk 9 hX (hc := by cases f <;> kernel_rfl) (k := ?_)
  refine tk 10 hX (hc := by cases f <;> kernel_rfl) (k := ?_)
  refine tk 11 hX (hc := by cases f <;> kernel_rfl) (k := ?_)
  apply xa_pendE 12 (f := f) (X := X) hX hp; exact rfl; (first | (apply makes_alloc tabOk; exact rfl) | (apply makes_slice tabOk; exact rfl; exact rfl; exact rfl; exact rfl; exact rfl; (intro X; ((repeat (first | exact Bld.nil | (apply Bld.one; exact rfl; (conv => lhs; whnf); exact rfl; (repeat (first | exact PutL.nil | apply PutL.skip | apply PutL.cons))) | (apply Bld.agg; exact rfl; exact rfl; exact rfl; (repeat (first | exact PutL.nil | apply PutL.skip | apply PutL.cons))))))))); kernel_rfl; kernel_rfl; (intro X Y; (repeat (first | exact pgg_base | refine pgg_step ?_ (by exact rfl)))); (intro w' hs; ((first | exact se_hold hs.hold | exact se_hold (hold_sim hs.hold rfl) | exact se_hold (hold_sim hs.hold.tail rfl) | exact se_hold (hR hs rfl) | exact se_hold hs.hold.tail | exact se_hold hs.hold.tail.tail | exact se_hold hs.hold.tail.tail.tail | exact se_done rfl))); intro b w hI hs
  refine dt 13 hX (k := ?_)
  repeat' (first|(refine stA hs (k:=?_);intro w hs)|refine Nx.h ?_|fail)
  refine dn (k := ?_)
  refine tk 14 hX (k := ?_)
  refine en (k := ?_)
  repeat' (first|refine Nx.h ?_|fail)
  refine dr [9] hs (k := ?_); intro hX w hs
  refine tk 0 hX (k := ?_)
  refine tk 1 hX (k := ?_)
  refine tk 2 hX (k := ?_)
  refine tk 3 hX (k := ?_)
  refine dt 4 hX (k := ?_)
  (with_reducible apply xs_call); exact rfl; exact rfl; exact ofU32_ret p.r ⟨hr0, hr1⟩ _
  rintro v w' ⟨rfl, ho⟩; replace hs := hs.call0 ho; repeat' (first|refine Nx.h ?_|fail)
  refine dn (k := ?_)
  refine dt 5 hX (k := ?_)
  (with_reducible apply xs_call); exact rfl; exact rfl; exact add_ret (p.w * sn p.t base) p.r (by unfold InW; omega) (by unfold InW; omega) _
  rw [tell_in (x := p.w * sn p.t base + p.r) h4]
  rintro v w' ⟨rfl, ho⟩; replace hs := hs.call0 ho; repeat' (first|refine Nx.h ?_|fail)
  refine dn (k := ?_)
  refine tk 6 hX (k := ?_)
  refine tk 7 hX (k := ?_)
  refine tk 8 hX (k := ?_)
  refine dt 9 hX (k := ?_)
  repeat' (first|(refine stA hs (k:=?_);intro w hs)|refine Nx.h ?_|fail)
  refine dn (k := ?_)
  refine en (k := ?_)
  repeat' (first|refine vs (k:=?_)|(refine stA hs (k:=?_);intro w hs)|refine qRg ?_|refine Nx.h ?_|fail)
  first | refine rt (hq := ?_) | refine rt' (hq := ?_)
  exact ⟨rfl, hs.only0 rfl⟩
theorem add_ok (x y : Int) (hx : InW x) (hy : InW y) (h : InW (x + y)) (w0 : World) : Ret Tryz.prog 183 #[wv x, wv y] w0 fun v w' => v = .tuple #[wv (x + y), .bool true] ∧ Only [] w0 w' := by
  have := add_ret x y hx hy w0; rwa [tell_in h] at this
theorem sub_ok (x y : Int) (hx : InW x) (hy : InW y) (h : InW (x - y)) (w0 : World) : Ret Tryz.prog 158 #[wv x, wv y] w0 fun v w' => v = .tuple #[wv (x - y), .bool true] ∧ Only [] w0 w' := by
  have := sub_ret x y hx hy w0; rwa [tell_in h] at this
theorem mul_ok (x n : Int) (hx : InW x) (hn0 : -9223372036854775808 ≤ n) (hn1 : n < 9223372036854775808) (h : InW (x * n)) (w0 : World) : Ret Tryz.prog 156 #[wv x, .int .i64 n] w0 fun v w' => v = .tuple #[wv (x * n), .bool true] ∧ Only [] w0 w' := by
  have := mul_ret x n hx hn0 hn1 w0; rwa [tell_in h] at this
theorem div_ok (x y : Int) (hx : InW x) (hy0 : 0 < y) (hy1 : y < 18446744073709551616) (w0 : World) : Ret Tryz.prog 114 #[wv x, .int .u64 y] w0 fun v w' => v = .tuple #[wv (x / y), .int .u64 (x % y), .bool true] ∧ Only [] w0 w' := by
  have := div_ret x y hx (by omega) hy1 w0; unfold divV at this; rwa [if_neg (by omega)] at this
theorem div_in {x y : Int} (hx : InW x) (hy : 0 < y) : InW (x / y) := by
  obtain ⟨h1, h2⟩ := hx
  unfold InW
  constructor
  · rw [Int.le_ediv_iff_mul_le hy]
    have : -170141183460469231731687303715884105728 * y ≤ -170141183460469231731687303715884105728 := by omega
    omega
  · rw [Int.ediv_lt_iff_lt_mul hy]
    have : 170141183460469231731687303715884105728 ≤ 170141183460469231731687303715884105728 * y := by omega
    omega
theorem div64_ok (x y : Int) (hx : InW x) (hy0 : 0 < y) (hy1 : y < 4294967296) (w0 : World) : Ret Tryz.prog 114 #[wv x, .int .u64 (IntKind.u64.wrap y)] w0 fun v w' => v = .tuple #[wv (x / y), .int .u64 (x % y), .bool true] ∧ Only [] w0 w' := by
  rw [u64_of32 ⟨by omega, hy1⟩]; exact div_ok x y hx hy0 (by omega) w0
theorem small_ok (x : Int) (hx : InW x) (h : In64 x) (w0 : World) : Ret Tryz.prog 115 #[wv x] w0 fun v w' => v = .tuple #[.int .i64 x, .bool true] ∧ Only [] w0 w' := by
  have := small_ret x hx w0; unfold smallV at this; rwa [if_pos h] at this
theorem small_no (x : Int) (hx : InW x) (h : ¬ In64 x) (w0 : World) : Ret Tryz.prog 115 #[wv x] w0 fun v w' => v = .tuple #[.int .i64 0, .bool false] ∧ Only [] w0 w' := by
  have := small_ret x hx w0; unfold smallV at this; rwa [if_neg h] at this
def atP (base d w : Int) : Option Pt := if mayW w = true ∧ In64 (d / w) then some ⟨lat base (d / w), d % w, w⟩ else none
def Pt.zero : Pt := ⟨0, 0, 0⟩
def ptV (o : Option Pt) : Value := .tuple #[pv (o.getD .zero), .bool o.isSome]
theorem mayW_iff {w : Int} : mayW w = true ↔ 1 ≤ w ∧ w ≤ 1048576 := by unfold mayW; simp
theorem at_some {base d w : Int} {p : Pt} (h : atP base d w = some p) : p.In ∧ p.w = w ∧ p.right = true := by
  unfold atP at h
  split at h
  · rename_i hc
    cases h
    have h1 := mayW_iff.1 hc.1
    have m0 := Int.emod_nonneg d (show w ≠ 0 by omega)
    have m1 := Int.emod_lt_of_pos d (show 0 < w by omega)
    refine ⟨⟨lat_in _ _, ⟨m0, by show d % w < _; omega⟩, by show 0 ≤ w; omega, by show w < _; omega⟩, rfl, ?_⟩
    unfold Pt.right
    simp only [hc.1, Bool.true_and, decide_eq_true_eq]
    exact m1
  · cases h
theorem at_ret (base d q : Int) (hd : InW d) (w0 : World) : Ret Tryz.prog 212 #[.int .u64 base, wv d, .int .u32 q] w0 fun v w' => v = ptV (atP base d q) ∧ Only [] w0 w' := by
  have hs := St.nil w0
  refine ret_of_xc Tryz.func212 (by kernel_rfl) rfl Tryz.ntmps212 rfl rfl rfl ?_
  repeat' (first|refine vs (k:=?_)|(refine al hs (k:=?_);intro b w hz hs)|(refine bx hs (k:=?_);intro b w hz hs)|refine qRg ?_|refine Nx.h ?_|fail)
  (with_reducible apply xs_call); exact rfl; exact rfl; exact weight_ret q _
  rintro v w' ⟨rfl, ho⟩; replace hs := hs.call0 ho; repeat' (first|refine vs (k:=?_)|(refine stA hs (k:=?_);intro w hs)|refine qRg ?_|refine Nx.h ?_|(refine xc_cond rfl (fun hc=>?_) (fun hc=>?_))|fail)
  · first | refine rt (hq := ?_) | refine rt' (hq := ?_)
    refine ⟨?_, hs.only0 rfl⟩
    have : mayW q = false := by simpa using hc
    unfold atP
    rw [this]; rfl
  · have h0 : mayW q = true := by simpa using hc
    have h1 := mayW_iff.1 h0
    (with_reducible apply xs_call); exact rfl; exact rfl; exact div64_ok d q hd (by omega) (by omega) _
    rintro v w' ⟨rfl, ho⟩; replace hs := hs.call0 ho; repeat' (first|refine vs (k:=?_)|(refine stA hs (k:=?_);intro w hs)|(refine al hs (k:=?_);intro b w hz hs)|refine qRg ?_|refine Nx.h ?_|fail)
    by_cases h64 : In64 (d / q)
    · (with_reducible apply xs_call); exact rfl; exact rfl; exact small_ok (d / q) (div_in hd (by omega)) h64 _
      rintro v w' ⟨rfl, ho⟩; replace hs := hs.call0 ho; repeat' (first|refine vs (k:=?_)|refine qRg ?_|refine Nx.h ?_|refine qCf ?_|fail)
      (with_reducible apply xs_call); exact rfl; exact rfl; exact vadd_ret base (d / q) _
      rintro v w' ⟨rfl, ho⟩; replace hs := hs.call0 ho; repeat' (first|refine vs (k:=?_)|(refine stA hs (k:=?_);intro w hs)|refine Nx.h ?_|fail)
      first | refine rt (hq := ?_) | refine rt' (hq := ?_)
      refine ⟨?_, hs.only0 rfl⟩
      unfold atP
      rw [if_pos ⟨h0, h64⟩]
      have e : IntKind.u32.wrap (d % q) = d % q := u32_id ⟨Int.emod_nonneg _ (by omega), by have := Int.emod_lt_of_pos d (show 0 < q by omega); omega⟩
      rw [e]; rfl
    · (with_reducible apply xs_call); exact rfl; exact rfl; exact small_no (d / q) (div_in hd (by omega)) h64 _
      rintro v w' ⟨rfl, ho⟩; replace hs := hs.call0 ho; repeat' (first|refine vs (k:=?_)|(refine stA hs (k:=?_);intro w hs)|refine qRg ?_|refine Nx.h ?_|refine qCt ?_|fail)
      first | refine rt (hq := ?_) | refine rt' (hq := ?_)
      refine ⟨?_, hs.only0 rfl⟩
      unfold atP
      rw [if_neg (fun h => h64 h.2)]; rfl
end Go.Proofs.YtilajmcellffiaaGreatDoorX

namespace Go.Proofs.YtilajmcellffiaaGreatDoorX
open Go Go.RowKit
attribute [local irreducible] XS XC XA thenE blockE retE loopE loopS cutB cutN doneE SE
def tot (x : Int) : Int := if InW x then x else 0
theorem tot_in (x : Int) : InW (tot x) := by unfold tot; split; assumption; decide
theorem tell_tot (x : Int) : tellV x = .tuple #[wv (tot x), .bool (decide (InW x))] := by
  unfold tellV tot; split <;> rename_i h <;> simp [h]
theorem add_t (x y : Int) (hx : InW x) (hy : InW y) (w0 : World) : Ret Tryz.prog 183 #[wv x, wv y] w0 fun v w' => v = .tuple #[wv (tot (x + y)), .bool (decide (InW (x + y)))] ∧ Only [] w0 w' := by
  have := add_ret x y hx hy w0; rwa [tell_tot] at this
theorem sub_t (x y : Int) (hx : InW x) (hy : InW y) (w0 : World) : Ret Tryz.prog 158 #[wv x, wv y] w0 fun v w' => v = .tuple #[wv (tot (x - y)), .bool (decide (InW (x - y)))] ∧ Only [] w0 w' := by
  have := sub_ret x y hx hy w0; rwa [tell_tot] at this
theorem mul_t (x n : Int) (hx : InW x) (hn : In64 n) (w0 : World) : Ret Tryz.prog 156 #[wv x, .int .i64 n] w0 fun v w' => v = .tuple #[wv (tot (x * n)), .bool (decide (InW (x * n)))] ∧ Only [] w0 w' := by
  have := mul_ret x n hx hn.1 hn.2 w0; rwa [tell_tot] at this
theorem neg_t (x : Int) (hx : InW x) (w0 : World) : Ret Tryz.prog 238 #[wv x] w0 fun v w' => v = .tuple #[wv (tot (-x)), .bool (decide (InW (-x)))] ∧ Only [] w0 w' := by
  have := neg_ret x hx w0; rwa [tell_tot] at this
def sml (x : Int) : Int := if In64 x then x else 0
theorem small_t (x : Int) (hx : InW x) (w0 : World) : Ret Tryz.prog 115 #[wv x] w0 fun v w' => v = .tuple #[.int .i64 (sml x), .bool (decide (In64 x))] ∧ Only [] w0 w' := by
  have := small_ret x hx w0
  have e : smallV x = .tuple #[.int .i64 (sml x), .bool (decide (In64 x))] := by unfold smallV sml; split <;> rename_i h <;> simp [h]
  rwa [e] at this
def dq (x y : Int) : Int := if y = 0 then 0 else x / y
def dm (x y : Int) : Int := if y = 0 then 0 else x % y
theorem dq_in {x y : Int} (hx : InW x) (hy : 0 ≤ y) : InW (dq x y) := by
  unfold dq; split; decide; exact div_in hx (by omega)
theorem div_t (x y : Int) (hx : InW x) (hy : U64 y) (w0 : World) : Ret Tryz.prog 114 #[wv x, .int .u64 y] w0 fun v w' => v = .tuple #[wv (dq x y), .int .u64 (dm x y), .bool (decide (y ≠ 0))] ∧ Only [] w0 w' := by
  have := div_ret x y hx hy.1 hy.2 w0
  have e : divV x y = .tuple #[wv (dq x y), .int .u64 (dm x y), .bool (decide (y ≠ 0))] := by unfold divV dq dm; split <;> rename_i h <;> simp [h]
  rwa [e] at this
def movP (p : Pt) (g : Int) : Option Pt := atP p.t (g + p.r) p.w
theorem move_ret (p : Pt) (g : Int) (h : p.In) (hg : U64 g) (w0 : World) : Ret Tryz.prog 170 #[pv p, .int .u64 g] w0 fun v w' => v = ptV (movP p g) ∧ Only [] w0 w' := by
  obtain ⟨⟨ht0, ht1⟩, ⟨hr0, hr1⟩, hw0, hw1⟩ := h
  obtain ⟨hg0, hg1⟩ := hg
  have hs := St.nil w0
  refine ret_of_xc Tryz.func170 (by kernel_rfl) rfl Tryz.ntmps170 rfl rfl rfl ?_
  repeat' (first|refine vs (k:=?_)|(refine al hs (k:=?_);intro b w hz hs)|(refine bx hs (k:=?_);intro b w hz hs)|refine qRg ?_|refine Nx.h ?_|fail)
  refine dr [] hs (k := ?_); intro hX w hs
  refine tk 0 hX (k := ?_)
  refine tk 2 hX (k := ?_)
  refine tk 3 hX (k := ?_)
  refine tk 4 hX (k := ?_)
  refine pd0 10 6 hs (k := ?_); intro f X w hp; have hs := hp.st
  apply xa_pend 1 10 (f := f) (X := X) hX hp; exact rfl; exact rfl; (first | (apply makes_alloc tabOk; exact rfl) | (apply makes_slice tabOk; exact rfl; exact rfl; exact rfl; exact rfl; exact rfl; (intro X; ((repeat (first | exact Bld.nil | (apply Bld.one; exact rfl; (conv => lhs; whnf); exact rfl; (repeat (first | exact PutL.nil | apply PutL.skip | apply PutL.cons))) | (apply Bld.agg; exact rfl; exact rfl; exact rfl; (repeat (first | exact PutL.nil | apply PutL.skip | apply PutL.cons))))))))); kernel_rfl; kernel_rfl; kernel_rfl; kernel_rfl; (intro X Y; (repeat (first | exact pgg_base | refine pgg_step ?_ (by exact rfl)))); (intro w' hs; ((first | exact se_hold hs.hold | exact se_hold (hold_sim hs.hold rfl) | exact se_hold (hold_sim hs.hold.tail rfl) | exact se_hold (hR hs rfl) | exact se_hold hs.hold.tail | exact se_hold hs.hold.tail.tail | exact se_hold hs.hold.tail.tail.tail | exact se_done rfl))); intro f X w hp; have hs := hp.st
  (with_reducible apply xs_call); exact rfl; exact rfl; exact ofU_ret g (by omega) (by omega) _
  rintro v w' ⟨rfl, ho⟩; replace hp := hp.only ho; replace hs := hp.st; repeat' (first|refine Nx.h ?_|fail)
  refine dn (k := ?_)
  apply xa_pend 5 10 (f := f) (X := X) hX hp; exact rfl; exact rfl; (first | (apply makes_alloc tabOk; exact rfl) | (apply makes_slice tabOk; exact rfl; exact rfl; exact rfl; exact rfl; exact rfl; (intro X; ((repeat (first | exact Bld.nil | (apply Bld.one; exact rfl; (conv => lhs; whnf); exact rfl; (repeat (first | exact PutL.nil | apply PutL.skip | apply PutL.cons))) | (apply Bld.agg; exact rfl; exact rfl; exact rfl; (repeat (first | exact PutL.nil | apply PutL.skip | apply PutL.cons))))))))); kernel_rfl; kernel_rfl; kernel_rfl; kernel_rfl; (intro X Y; (repeat (first | exact pgg_base | refine pgg_step ?_ (by exact rfl)))); (intro w' hs; ((first | exact se_hold hs.hold | exact se_hold (hold_sim hs.hold rfl) | exact se_hold (hold_sim hs.hold.tail rfl) | exact se_hold (hR hs rfl) | exact se_hold hs.hold.tail | exact se_hold hs.hold.tail.tail | exact se_hold hs.hold.tail.tail.tail | exact se_done rfl))); intro f X w hp; have hs := hp.st
  (with_reducible apply xs_call); exact rfl; exact rfl; exact ofU32_ret p.r ⟨hr0, hr1⟩ _
  rintro v w' ⟨rfl, ho⟩; replace hp := hp.only ho; replace hs := hp.st; repeat' (first|refine Nx.h ?_|fail)
  refine dn (k := ?_)
  apply xa_pend 6 10 (f := f) (X := X) hX hp; exact rfl; exact rfl; (first | (apply makes_alloc tabOk; exact rfl) | (apply makes_slice tabOk; exact rfl; exact rfl; exact rfl; exact rfl; exact rfl; (intro X; ((repeat (first | exact Bld.nil | (apply Bld.one; exact rfl; (conv => lhs; whnf); exact rfl; (repeat (first | exact PutL.nil | apply PutL.skip | apply PutL.cons))) | (apply Bld.agg; exact rfl; exact rfl; exact rfl; (repeat (first | exact PutL.nil | apply PutL.skip | apply PutL.cons))))))))); kernel_rfl; kernel_rfl; kernel_rfl; kernel_rfl; (intro X Y; (repeat (first | exact pgg_base | refine pgg_step ?_ (by exact rfl)))); (intro w' hs; ((first | exact se_hold hs.hold | exact se_hold (hold_sim hs.hold rfl) | exact se_hold (hold_sim hs.hold.tail rfl) | exact se_hold (hR hs rfl) | exact se_hold hs.hold.tail | exact se_hold hs.hold.tail.tail | exact se_hold hs.hold.tail.tail.tail | exact se_done rfl))); intro f X w hp; have hs := hp.st
  (with_reducible apply xs_call); exact rfl; exact rfl; exact add_ok g p.r (by unfold InW; omega) (by unfold InW; omega) (by unfold InW; omega) _
  rintro v w' ⟨rfl, ho⟩; replace hp := hp.only ho; replace hs := hp.st; repeat' (first|refine Nx.h ?_|fail)
  refine dn (k := ?_)
  refine tk 7 hX (hc := by cases f <;> kernel_rfl) (k := ?_)
  refine tk 8 hX (hc := by cases f <;> kernel_rfl) (k := ?_)
  refine tk 9 hX (hc := by cases f <;> kernel_rfl) (k := ?_)
  apply xa_pendE 10 (f := f) (X := X) hX hp; exact rfl; (first | (apply makes_alloc tabOk; exact rfl) | (apply makes_slice tabOk; exact rfl; exact rfl; exact rfl; exact rfl; exact rfl; (intro X; ((repeat (first | exact Bld.nil | (apply Bld.one; exact rfl; (conv => lhs; whnf); exact rfl; (repeat (first | exact PutL.nil | apply PutL.skip | apply PutL.cons))) | (apply Bld.agg; exact rfl; exact rfl; exact rfl; (repeat (first | exact PutL.nil | apply PutL.skip | apply PutL.cons))))))))); kernel_rfl; kernel_rfl; (intro X Y; (repeat (first | exact pgg_base | refine pgg_step ?_ (by exact rfl)))); (intro w' hs; ((first | exact se_hold hs.hold | exact se_hold (hold_sim hs.hold rfl) | exact se_hold (hold_sim hs.hold.tail rfl) | exact se_hold (hR hs rfl) | exact se_hold hs.hold.tail | exact se_hold hs.hold.tail.tail | exact se_hold hs.hold.tail.tail.tail | exact se_done rfl))); intro b w hI hs
  refine dt 11 hX (k := ?_)
  repeat' (first|(refine stA hs (k:=?_);intro w hs)|refine Nx.h ?_|fail)
  refine dn (k := ?_)
  refine tk 12 hX (k := ?_)
  refine en (k := ?_)
  repeat' (first|refine vs (k:=?_)|refine qRg ?_|refine Nx.h ?_|fail)
  (with_reducible apply xs_call); exact rfl; exact rfl; exact at_ret p.t (g + p.r) p.w (by unfold InW; omega) _
  rintro v w' ⟨rfl, ho⟩; replace hs := hs.call0 ho; repeat' (first|refine vs (k:=?_)|(refine stA hs (k:=?_);intro w hs)|refine Nx.h ?_|fail)
  first | refine rt (hq := ?_) | refine rt' (hq := ?_)
  exact ⟨rfl, hs.only0 rfl⟩
def cmpP (p q : Pt) : Int := if cmpI 0 (sn q.t p.t) = 0 then cmpI (p.r * q.w) (q.r * p.w) else cmpI 0 (sn q.t p.t)
theorem prod32 {a b : Int} (ha : U32 a) (hb : U32 b) : IntKind.u64.wrap (IntKind.u64.wrap a * IntKind.u64.wrap b) = a * b := by
  rw [u64_of32 ha, u64_of32 hb]
  refine u64_id ⟨Int.mul_nonneg ha.1 hb.1, ?_⟩
  have := mul_rng (w := a) (s := b) (W := 4294967296) (S := 4294967296) ha.1 (Int.le_of_lt ha.2) (by have := hb.1; omega) (Int.le_of_lt hb.2)
  have h1 := ha.2
  have h2 : a * b ≤ a * 4294967295 := Int.mul_le_mul_of_nonneg_left (by have := hb.2; omega) ha.1
  omega
theorem pcmp_ret (p q : Pt) (hp' : p.In) (hq : q.In) (w0 : World) : Ret Tryz.prog 173 #[pv p, pv q] w0 fun v w' => v = .int .i64 (cmpP p q) ∧ Only [] w0 w' := by
  have hs := St.nil w0
  refine ret_of_xc Tryz.func173 (by kernel_rfl) rfl Tryz.ntmps173 rfl rfl rfl ?_
  repeat' (first|refine vs (k:=?_)|(refine bx hs (k:=?_);intro b w hz hs)|refine qRg ?_|refine Nx.h ?_|fail)
  refine dr [] hs (k := ?_); intro hX w hs
  refine tk 0 hX (k := ?_)
  refine tk 1 hX (k := ?_)
  refine tk 2 hX (k := ?_)
  refine tk 3 hX (k := ?_)
  refine tk 6 hX (k := ?_)
  refine tk 7 hX (k := ?_)
  refine tk 8 hX (k := ?_)
  refine tk 9 hX (k := ?_)
  refine tk 10 hX (k := ?_)
  refine tk 11 hX (k := ?_)
  refine tk 12 hX (k := ?_)
  refine tk 13 hX (k := ?_)
  refine tk 14 hX (k := ?_)
  refine tk 15 hX (k := ?_)
  refine tk 16 hX (k := ?_)
  refine tk 17 hX (k := ?_)
  refine tk 18 hX (k := ?_)
  refine tk 19 hX (k := ?_)
  refine xa_set 17 (congrArg (Value.int .u64) (prod32 hp'.2.1 hq.2.2)) ?_
  refine xa_set 24 (congrArg (Value.int .u64) (prod32 hq.2.1 hp'.2.2)) ?_
  refine dt 4 hX (k := ?_)
  (with_reducible apply xs_call); exact rfl; exact rfl; exact since_ret q.t p.t _
  rintro v w' ⟨rfl, ho⟩; replace hs := hs.call0 ho; repeat' (first|refine Nx.h ?_|fail)
  refine dn (k := ?_)
  refine dt 5 hX (k := ?_)
  (with_reducible apply xs_call); exact rfl; exact rfl; exact compareS_ret 0 (sn q.t p.t) _
  rintro v w' ⟨rfl, ho⟩; replace hs := hs.call0 ho; repeat' (first|refine Nx.h ?_|fail)
  refine dn (k := ?_)
  refine dt 20 hX (k := ?_)
  (with_reducible apply xs_call); exact rfl; exact rfl; exact compareU_ret (p.r * q.w) (q.r * p.w) _
  rintro v w' ⟨rfl, ho⟩; replace hs := hs.call0 ho; repeat' (first|refine Nx.h ?_|fail)
  refine dn (k := ?_)
  refine dt 21 hX (k := ?_)
  repeat' (first|(refine bs hs (k:=?_);intro b w hz hs)|refine Nx.h ?_|fail)
  refine dn (k := ?_)
  refine dt 22 hX (k := ?_)
  (with_reducible apply xs_call); exact rfl; exact rfl; exact or_ret _ _ _ _ _ (hs.get At.head)
  rintro v w' ⟨rfl, ho⟩; replace hs := hs.call0 ho; repeat' (first|refine Nx.h ?_|fail)
  refine dn (k := ?_)
  refine tk 23 hX (k := ?_)
  refine en (k := ?_)
  repeat' (first|refine Nx.h ?_|fail)
  first | refine rt (hq := ?_) | refine rt' (hq := ?_)
  exact ⟨rfl, hs.only0 rfl⟩
def Pt.shift (p : Pt) (by_ : Int) : Pt := ⟨lat p.t by_, p.r, p.w⟩
theorem Pt.shift_in {p : Pt} (h : p.In) (d : Int) : (p.shift d).In := ⟨lat_in _ _, h.2⟩
theorem pshift_ret (p : Pt) (d : Int) (w0 : World) : Ret Tryz.prog 241 #[pv p, .int .u64 d] w0 fun v w' => v = pv (p.shift d) ∧ Only [] w0 w' := by
  have hs := St.nil w0
  refine ret_of_xc Tryz.func241 (by kernel_rfl) rfl Tryz.ntmps241 rfl rfl rfl ?_
  repeat' (first|refine vs (k:=?_)|(refine st hs (k:=?_);intro w hs)|(refine stA hs (k:=?_);intro w hs)|(refine al hs (k:=?_);intro b w hz hs)|(refine bx hs (k:=?_);intro b w hz hs)|refine qRg ?_|refine Nx.h ?_|fail)
  first | refine rt (hq := ?_) | refine rt' (hq := ?_)
  refine ⟨?_, hs.only0 rfl⟩
  unfold Pt.shift pv lat packed
  rw [wrap_u64]
end Go.Proofs.YtilajmcellffiaaGreatDoorX

namespace Go.Proofs.YtilajmcellffiaaGreatDoorX
open Go Go.RowKit
attribute [local irreducible] XS XC XA thenE blockE retE loopE loopS cutB cutN doneE SE
structure It where
  p : Pt
  id : Int
  d : Pt
deriving DecidableEq
abbrev It.cells (a : It) : List Value := [.int .u64 a.p.t, .int .u32 a.p.r, .int .u32 a.p.w, .int .i64 a.id, .int .u64 a.d.t, .int .u32 a.d.r, .int .u32 a.d.w]
def iv (a : It) : Value := .agg #[.int .u64 a.p.t, .int .u32 a.p.r, .int .u32 a.p.w, .int .i64 a.id, .int .u64 a.d.t, .int .u32 a.d.r, .int .u32 a.d.w]
def It.In (a : It) : Prop := a.p.In ∧ In64 a.id ∧ a.d.In
instance (a : It) : Decidable a.In := by unfold It.In; infer_instance
def It.zero : It := ⟨.zero, 0, .zero⟩
def It.right (a : It) : Bool := a.p.right && a.d.right && decide (a.p.w = a.d.w) && decide (0 < a.id) && decide (0 ≤ sn a.d.t a.p.t) && decide (sn a.d.t a.p.t ≤ 1152921504606846976)
set_option maxHeartbeats 1000000 in
theorem iright_ret (a : It) (w0 : World) : Ret Tryz.prog 103 #[iv a] w0 fun v w' => v = .bool a.right ∧ Only [] w0 w' := by
  have hs := St.nil w0
  refine ret_of_xc Tryz.func103 (by kernel_rfl) rfl Tryz.ntmps103 rfl rfl rfl ?_
  repeat' (first|refine vs (k:=?_)|(refine bx hs (k:=?_);intro b w hz hs)|refine qRg ?_|refine Nx.h ?_|fail)
  (with_reducible apply xs_call); exact rfl; exact rfl; exact since_ret a.d.t a.p.t _
  rintro v w' ⟨rfl, ho⟩; replace hs := hs.call0 ho; repeat' (first|refine vs (k:=?_)|refine qRg ?_|refine Nx.h ?_|fail)
  (with_reducible apply xs_call); exact rfl; exact rfl; exact pright_ret a.p _
  rintro v w' ⟨rfl, ho⟩; replace hs := hs.call0 ho; repeat' (first|refine vs (k:=?_)|refine ps (k:=?_)|refine Nx.h ?_|((with_reducible apply xs_guard);exact rfl;exact rfl;intro c hc;(fail_if_success have:true=c:=hc);(fail_if_success have:false=c:=hc);cases c)|fail)
  · first | refine rt (hq := ?_) | refine rt' (hq := ?_)
    refine ⟨?_, hs.only0 rfl⟩
    clear hs
    unfold It.right packed
    simp_all
  · (with_reducible apply xs_call); exact rfl; exact rfl; exact pright_ret a.d _
    rintro v w' ⟨rfl, ho⟩; replace hs := hs.call0 ho; repeat' (first|refine vs (k:=?_)|refine ps (k:=?_)|refine Nx.h ?_|((with_reducible apply xs_guard);exact rfl;exact rfl;intro c hc;(fail_if_success have:true=c:=hc);(fail_if_success have:false=c:=hc);cases c)|fail)
    all_goals (first | refine rt (hq := ?_) | refine rt' (hq := ?_))
    all_goals refine ⟨?_, hs.only0 rfl⟩
    all_goals clear hs
    all_goals (unfold It.right packed; simp_all <;> omega)
def ahead (a b : It) : Bool := decide (cmpP a.p b.p < 0) || (decide (cmpP a.p b.p = 0) && decide (a.id < b.id))
set_option maxHeartbeats 1000000 in
theorem ahead_ret (x y : It) (ha : x.In) (hb : y.In) (w0 : World) : Ret Tryz.prog 133 #[iv x, iv y] w0 fun v w' => v = .bool (ahead x y) ∧ Only [] w0 w' := by
  have hs := St.nil w0
  refine ret_of_xc Tryz.func133 (by kernel_rfl) rfl Tryz.ntmps133 rfl rfl rfl ?_
  repeat' (first|refine vs (k:=?_)|(refine bx hs (k:=?_);intro b w hz hs)|refine qRg ?_|refine Nx.h ?_|fail)
  (with_reducible apply xs_call); exact rfl; exact rfl; exact pcmp_ret x.p y.p ha.1 hb.1 _
  rintro v w' ⟨rfl, ho⟩; replace hs := hs.call0 ho; repeat' (first|refine vs (k:=?_)|refine ps (k:=?_)|refine qRg ?_|refine Nx.h ?_|((with_reducible apply xs_guard);exact rfl;exact rfl;intro c hc;(fail_if_success have:true=c:=hc);(fail_if_success have:false=c:=hc);cases c)|fail)
  all_goals (first | refine rt (hq := ?_) | refine rt' (hq := ?_))
  all_goals refine ⟨?_, hs.only0 rfl⟩
  all_goals clear hs
  all_goals (unfold ahead packed; simp_all)
def due (a b : It) : Bool := decide (cmpP a.d b.d < 0) || (decide (cmpP a.d b.d = 0) && ahead a b)
set_option maxHeartbeats 1000000 in
theorem due_ret (x y : It) (ha : x.In) (hb : y.In) (w0 : World) : Ret Tryz.prog 214 #[iv x, iv y] w0 fun v w' => v = .bool (due x y) ∧ Only [] w0 w' := by
  have hs := St.nil w0
  refine ret_of_xc Tryz.func214 (by kernel_rfl) rfl Tryz.ntmps214 rfl rfl rfl ?_
  repeat' (first|refine vs (k:=?_)|(refine bx hs (k:=?_);intro b w hz hs)|refine qRg ?_|refine Nx.h ?_|fail)
  (with_reducible apply xs_call); exact rfl; exact rfl; exact pcmp_ret x.d y.d ha.2.2 hb.2.2 _
  rintro v w' ⟨rfl, ho⟩; replace hs := hs.call0 ho; repeat' (first|refine vs (k:=?_)|refine ps (k:=?_)|refine qRg ?_|refine Nx.h ?_|((with_reducible apply xs_guard);exact rfl;exact rfl;intro c hc;(fail_if_success have:true=c:=hc);(fail_if_success have:false=c:=hc);cases c)|fail)
  · first | refine rt (hq := ?_) | refine rt' (hq := ?_)
    refine ⟨?_, hs.only0 rfl⟩
    clear hs
    unfold due packed; simp_all
  · (with_reducible apply xs_call); exact rfl; exact rfl; exact ahead_ret x y ha hb _
    rintro v w' ⟨rfl, ho⟩; replace hs := hs.call0 ho; repeat' (first|refine vs (k:=?_)|refine Nx.h ?_|fail)
    first | refine rt (hq := ?_) | refine rt' (hq := ?_)
    refine ⟨?_, hs.only0 rfl⟩
    clear hs
    unfold due packed; simp_all
  · first | refine rt (hq := ?_) | refine rt' (hq := ?_)
    refine ⟨?_, hs.only0 rfl⟩
    clear hs
    unfold due packed; simp_all
end Go.Proofs.YtilajmcellffiaaGreatDoorX

namespace Go.Proofs.YtilajmcellffiaaGreatDoorX
open Go Go.RowKit
section
variable {P : Program} {ops : Array Oper} {QE : Exit → Env → World → Prop} {n : Nat} {rest : List Oper} {env : Env} {w wb : World} {D : Ctx} {H : List Ent} {T : Tab}
  {d : Option Nat} {ty : Nat} {pos : String} {aft : Array Edge} {g : Option (Nat × Bool)}
theorem append_many {t e size bytes : Nat} (hu : P.underlying t = some (.slice e)) {i : TypeInfo} (hi : P.info? e = some i) (hs1 : i.size = size) (hs2 : i.bytes = bytes) {z : Value} (hz : i.zero = some z) (hzc : z.cells.size = size)
    {v : Value} {k : Nat} {xs news : List Value} {a : Addr} {c m : Nat} (hO : OwnS wb D H e size v k xs w) (hl : news.length = c * size) (hc0 : 0 < c) (hcs : ∀ (j : Nat) u, news[j]? = some u → w.cell? (a.add j) = some u) (h1 : ∀ u ∈ news, u.oneCell' = true)
    (hk : (k + c) * bytes ≤ 140737488355328) (hk' : k + c ≤ 9223372036854775807) :
    ∃ v' w', (Builtin.append_ #[t, t] ty #[v, .slice (some a) c m]).run P w = .ok v' w' ∧ OwnS wb D H e size v' (k + c) (xs ++ news) w' ∧ v' ≠ .slice none 0 0 := by
  subst hs1 hs2
  have hcb : c * i.bytes ≤ 281474976710656 := by
    have := Nat.mul_le_mul_right i.bytes (show c ≤ k + c by omega)
    omega
  rcases hO with ⟨rfl, rfl, rfl, hs⟩ | ⟨g, cap, cur, rfl, hc, hcl, hxl, htk, hs⟩
  · have hr := run_append_nil (P := P) w t ty e i z hu hi hz a c m news hl hcs hc0 (by omega) hcb
    refine ⟨_, _, hr, .inr ⟨w.heap.size, grownCap w c 0 e, (news.toArray ++ Builtin.zeroCells z.cells (grownCap w c 0 e - c)).toList, by rw [Nat.zero_add], by rw [Nat.zero_add]; exact grownCap_ge w c 0 e, ?_, ?_, ?_, hs.drew'.alloc _⟩, by simp⟩
    · have := grownCap_ge w c 0 e
      simp only [Array.toList_append, List.length_append, zero_list, hzc, hl]
      rw [← Nat.add_mul]; congr 1; omega
    · rw [Nat.zero_add, List.nil_append, hl]
    · rw [List.nil_append, Nat.zero_add, Array.toList_append, List.take_append_of_le_length (by simp [hl])]
      exact List.take_of_length_le (by simp [hl])
  · have hg := hs.get At.head
    by_cases hroom : k + c ≤ cap
    · have hfit : k * i.size + news.length ≤ cur.toArray.size := by
        rw [hl, List.size_toArray, hcl, ← Nat.add_mul]; exact Nat.mul_le_mul_right _ hroom
      have hr := run_append_room (P := P) w t ty e i hu hi g k cap cur.toArray hg a c m news hl hcs h1 hroom hfit
      simp only [List.size_toArray] at hfit
      refine ⟨_, _, hr, .inr ⟨g, cap, (cur.take (k * i.size) ++ news ++ cur.drop (k * i.size + news.length)), rfl, hroom, ?_, ?_, ?_, hs.row At.head _⟩, by simp⟩
      · simp only [List.length_append, List.length_take, List.length_drop]
        omega
      · rw [List.length_append, hxl, hl, Nat.add_mul]
      · rw [List.append_assoc, ← List.append_assoc, htk, List.take_append_of_le_length (by rw [List.length_append, hxl, hl, Nat.add_mul]; exact Nat.le_refl _)]
        exact List.take_of_length_le (by rw [List.length_append, hxl, hl, Nat.add_mul]; exact Nat.le_refl _)
    · have hold : ∀ (j : Nat) u, xs[j]? = some u → w.cell? ((⟨g, 0, none⟩ : Addr).add j) = some u := fun j u hj => by
        rw [add_addr]
        rw [← htk, List.getElem?_take] at hj
        split at hj
        · simp [World.cell?, hg, hj]
        · cases hj
      have hr := run_append_grow (P := P) w t ty e i z hu hi hz ⟨g, 0, none⟩ k cap xs hxl hold a c m news hl hcs (by omega) (by omega) (growslice_fits (by omega) hk)
      have hge := grownCap_ge w (k + c) cap e
      refine ⟨_, _, hr, .inr ⟨w.heap.size, grownCap w (k + c) cap e, (xs.toArray ++ news.toArray ++ Builtin.zeroCells z.cells (grownCap w (k + c) cap e - (k + c))).toList, rfl, hge, ?_, ?_, ?_, (hs.drew'.alloc _).swap.forgetNew⟩, by simp⟩
      · simp only [Array.toList_append, List.length_append, zero_list, hzc, hl, hxl]
        rw [← Nat.add_mul, ← Nat.add_mul]; congr 1; omega
      · rw [List.length_append, hxl, hl, Nat.add_mul]
      · rw [Array.toList_append, Array.toList_append, List.take_append_of_le_length (by simp [hxl, hl, Nat.add_mul])]
        exact List.take_of_length_le (by simp [hxl, hl, Nat.add_mul])
theorem xs_appendS (hT : TabOk P T) {t e size bytes : Nat} {zs news : List Value} {x y : Operand} {v : Value} {k c m : Nat} {a : Addr} {xs : List Value} (hw : wantedE ops env g = true) (hsl : look t T.sls = some (e, size, bytes)) (hz : look e T.zs = some zs) (hzl : Nat.beq zs.length size = true)
    (hx : ev env x = v) (hy : ev env y = .slice (some a) c m) (hl : news.length = c * size) (hc0 : 0 < c) (hcs : ∀ (j : Nat) u, news[j]? = some u → w.cell? (a.add j) = some u) (h1 : ∀ u ∈ news, u.oneCell' = true) (hO : OwnS wb D H e size v k xs w)
    (hk : (k + c) * bytes ≤ 140737488355328) (hk' : k + c ≤ 9223372036854775807) (kk : ∀ v' w', OwnS wb D H e size v' (k + c) (xs ++ news) w' → v' ≠ .slice none 0 0 → XS P ops QE n rest (updO env d v') w') :
    XS P ops QE n (⟨d, .call { callee := .builtin .append, args := #[x, y], argTypes := #[t, t] }, ty, pos, aft, g⟩ :: rest) env w := by
  obtain ⟨hu, i, hi, hs1, hs2⟩ := sl_parts (hT.sl hsl)
  obtain ⟨i', z, hi', hz', hzc⟩ := z_parts (hT.z hz)
  rw [hi] at hi'; cases hi'
  obtain ⟨v', w', hr, h2, h3⟩ := append_many (P := P) (ty := ty) (m := m) hu hi hs1 hs2 hz' (by rw [hzc]; simpa using Nat.eq_of_beq_eq_true hzl) hO hl hc0 hcs h1 hk hk'
  refine XS.value hw (v := v') (w' := w') ?_ (kk v' w' h2 h3)
  simp [execOp, resolve, Sem.run_bind, invoke, builtin, hx, hy, hr]
theorem xs_buildSlice0 (hT : TabOk P T) {t e size bytes : Nat} (hw : wantedE ops env g = true) (hsl : look t T.sls = some (e, size, bytes)) (hs : St wb D H w)
    (k : ∀ v w', OwnS wb D H e size v 0 [] w' → v ≠ .slice none 0 0 → XS P ops QE n rest (updO env d v) w') :
    XS P ops QE n (⟨d, .buildSlice t 0 #[], ty, pos, aft, g⟩ :: rest) env w := by
  obtain ⟨hu, i, hi, hs1, hs2⟩ := sl_parts (hT.sl hsl)
  refine XS.value hw (w' := { w with heap := w.heap.push (.cells #[] e) }) (v := .slice (some ⟨w.heap.size, 0, none⟩) 0 0) ?_ (k _ _ (.inr ⟨w.heap.size, 0, [], rfl, Nat.le_refl _, by simp, by simp, by simp, hs.alloc _⟩) (by simp))
  simp only [execOp, Sem.run_bind, Instr.buildSlice, run_underlying' hu, Result.andThen_ok, sizeOf, run_typeInfo' hi, Sem.run_pure]
  simp [Instr.fill, newRow, newObj, Sem.run, Sem.run_bind]
  rw [show (Array.range 0).map (fun _ => (default : Value)) = #[] by simp [Array.range]]
theorem St.rebase (hs : St wb D H w) : St w D0 (H.map fun e => (e.1, e.2.1, false)) w where
  at_ := fun e he => by
    obtain ⟨e', he', rfl⟩ := List.mem_map.1 he
    exact hs.at_ e' he'
  nd := by rw [List.map_map]; exact hs.nd
  new := fun p hp h => by
    obtain ⟨e, he, rfl⟩ := List.mem_map.1 hp
    obtain ⟨e', he', rfl⟩ := List.mem_map.1 he
    cases h
  os := rfl
  tape := rfl
  output := rfl
  size := Nat.le_refl _
  frame := fun _ _ _ _ => rfl
  ro := by simp [D0]
  ap := by simp [D0]
end
theorem St.onlyF {wb w : World} {D : Ctx} {H : List Ent} (hs : St wb D H w) (F : List Nat) (hF : ∀ e ∈ H, e.2.2 = true ∨ e.1 ∈ F ∨ wb.heap[e.1]? = some e.2.1) (hD : ∀ k ∈ D.dirty, k ∈ F) : Only F wb w :=
  ⟨hs.os, hs.tape, hs.output, hs.size, fun k hk hn => by
    by_cases h1 : k ∈ H.map (·.1)
    · obtain ⟨e, he, rfl⟩ := List.mem_map.1 h1
      rcases hF e he with h | h | h
      · exact absurd hk (Nat.not_lt.2 (hs.new (e.1, e.2.2) (List.mem_map.2 ⟨e, he, rfl⟩) h))
      · exact absurd h hn
      · rw [hs.at_ e he, h]
    · exact hs.frame k hk (fun h => hn (hD k h)) h1⟩
theorem Only.step {w0 w1 w2 : World} {F G : List Nat} (h : Only F w0 w1) (k : Only G w1 w2) (hG : ∀ k ∈ G, k ∈ F ∨ w0.heap.size ≤ k) : Only F w0 w2 :=
  (h.trans k).mono fun k hk hm => by
    rcases List.mem_append.1 hm with hm | hm
    · exact hm
    · rcases hG k hm with h | h
      · exact h
      · omega
theorem blocks_ne {w : World} {a b : Nat} {ca cb : Array Value} {ta tb : TypeId} {fa fb : Nat × Nat} (h : w.heap[a]? = some (.cells ca ta fa)) (k : w.heap[b]? = some (.cells cb tb fb)) (hne : ta ≠ tb) : a ≠ b := fun e => by
  subst e
  rw [h] at k
  cases k
  exact hne rfl
end Go.Proofs.YtilajmcellffiaaGreatDoorX

namespace Go.Proofs.YtilajmcellffiaaGreatDoorX
open Go Go.RowKit
def SlV (w : World) (e k : Nat) (v : Value) (n : Nat) (xs : List Value) (G : List Nat) : Prop :=
  (v = .slice none 0 0 ∧ n = 0 ∧ xs = [] ∧ G = []) ∨
  ∃ (g cap : Nat) (cur : List Value), v = .slice (some ⟨g, 0, none⟩) n cap ∧ G = [g] ∧ n ≤ cap ∧ cur.length = cap * k ∧ xs.length = n * k ∧ cur.take (n * k) = xs ∧ w.heap[g]? = some (.cells cur.toArray e (0, 0))
section
variable {P : Program} {ops : Array Oper} {QE : Exit → Env → World → Prop} {n : Nat} {rest : List Oper} {env : Env} {w wb : World} {D : Ctx} {H : List Ent} {T : Tab}
  {d : Option Nat} {ty : Nat} {pos : String} {aft : Array Edge} {g : Option (Nat × Bool)}
theorem append_w {t e size bytes : Nat} (hu : P.underlying t = some (.slice e)) {i : TypeInfo} (hi : P.info? e = some i) (hs1 : i.size = size) (hs2 : i.bytes = bytes) {z : Value} (hz : i.zero = some z) (hzc : z.cells.size = size)
    {v : Value} {k : Nat} {xs news : List Value} {a : Addr} {c m : Nat} {G : List Nat} (hO : SlV w e size v k xs G) (hl : news.length = c * size) (hc0 : 0 < c) (hcs : ∀ (j : Nat) u, news[j]? = some u → w.cell? (a.add j) = some u) (h1 : ∀ u ∈ news, u.oneCell' = true)
    (hk : (k + c) * bytes ≤ 140737488355328) (hk' : k + c ≤ 9223372036854775807) :
    ∃ v' w', (Builtin.append_ #[t, t] ty #[v, .slice (some a) c m]).run P w = .ok v' w' ∧ (∃ G', SlV w' e size v' (k + c) (xs ++ news) G' ∧ ∀ i ∈ G', i ∈ G ∨ w.heap.size ≤ i) ∧ Only G w w' := by
  subst hs1 hs2
  have hcb : c * i.bytes ≤ 281474976710656 := by
    have := Nat.mul_le_mul_right i.bytes (show c ≤ k + c by omega)
    omega
  rcases hO with ⟨rfl, rfl, rfl, rfl⟩ | ⟨g, cap, cur, rfl, rfl, hc, hcl, hxl, htk, hg⟩
  · have hr := run_append_nil (P := P) w t ty e i z hu hi hz a c m news hl hcs hc0 (by omega) hcb
    have hs := (St.nil w).drew'.alloc (.cells (news.toArray ++ Builtin.zeroCells z.cells (grownCap w c 0 e - c)) e)
    refine ⟨_, _, hr, ⟨[w.heap.size], .inr ⟨w.heap.size, grownCap w c 0 e, (news.toArray ++ Builtin.zeroCells z.cells (grownCap w c 0 e - c)).toList, by rw [Nat.zero_add], rfl, by rw [Nat.zero_add]; exact grownCap_ge w c 0 e, ?_, ?_, ?_, hs.get At.head⟩, by simp⟩, hs.only0 rfl⟩
    · have := grownCap_ge w c 0 e
      simp only [Array.toList_append, List.length_append, zero_list, hzc, hl]
      rw [← Nat.add_mul]; congr 1; omega
    · rw [Nat.zero_add, List.nil_append, hl]
    · rw [List.nil_append, Nat.zero_add, Array.toList_append, List.take_append_of_le_length (by simp [hl])]
      exact List.take_of_length_le (by simp [hl])
  · have hs0 := (St.nil w).track hg (by simp)
    by_cases hroom : k + c ≤ cap
    · have hfit : k * i.size + news.length ≤ cur.toArray.size := by
        rw [hl, List.size_toArray, hcl, ← Nat.add_mul]; exact Nat.mul_le_mul_right _ hroom
      have hr := run_append_room (P := P) w t ty e i hu hi g k cap cur.toArray hg a c m news hl hcs h1 hroom hfit
      simp only [List.size_toArray] at hfit
      have hs := hs0.row At.head (cur.take (k * i.size) ++ news ++ cur.drop (k * i.size + news.length)).toArray
      refine ⟨_, _, hr, ⟨[g], .inr ⟨g, cap, (cur.take (k * i.size) ++ news ++ cur.drop (k * i.size + news.length)), rfl, rfl, hroom, ?_, ?_, ?_, hs.get At.head⟩, by simp⟩, hs.onlyF [g] (by simp) (by simp [D0])⟩
      · simp only [List.length_append, List.length_take, List.length_drop]
        omega
      · rw [List.length_append, hxl, hl, Nat.add_mul]
      · rw [List.append_assoc, ← List.append_assoc, htk, List.take_append_of_le_length (by rw [List.length_append, hxl, hl, Nat.add_mul]; exact Nat.le_refl _)]
        exact List.take_of_length_le (by rw [List.length_append, hxl, hl, Nat.add_mul]; exact Nat.le_refl _)
    · have hold : ∀ (j : Nat) u, xs[j]? = some u → w.cell? ((⟨g, 0, none⟩ : Addr).add j) = some u := fun j u hj => by
        rw [add_addr]
        rw [← htk, List.getElem?_take] at hj
        split at hj
        · simp [World.cell?, hg, hj]
        · cases hj
      have hr := run_append_grow (P := P) w t ty e i z hu hi hz ⟨g, 0, none⟩ k cap xs hxl hold a c m news hl hcs (by omega) (by omega) (growslice_fits (by omega) hk)
      have hge := grownCap_ge w (k + c) cap e
      have hs := hs0.drew'.alloc (.cells (xs.toArray ++ news.toArray ++ Builtin.zeroCells z.cells (grownCap w (k + c) cap e - (k + c))) e)
      refine ⟨_, _, hr, ⟨[w.heap.size], .inr ⟨w.heap.size, grownCap w (k + c) cap e, (xs.toArray ++ news.toArray ++ Builtin.zeroCells z.cells (grownCap w (k + c) cap e - (k + c))).toList, rfl, rfl, hge, ?_, ?_, ?_, hs.get At.head⟩, by simp⟩, hs.onlyF [g] (by simp) (by simp [D0])⟩
      · simp only [Array.toList_append, List.length_append, zero_list, hzc, hl, hxl]
        rw [← Nat.add_mul, ← Nat.add_mul]; congr 1; omega
      · rw [List.length_append, hxl, hl, Nat.add_mul]
      · rw [Array.toList_append, Array.toList_append, List.take_append_of_le_length (by simp [hxl, hl, Nat.add_mul])]
        exact List.take_of_length_le (by simp [hxl, hl, Nat.add_mul])
theorem xs_appendW (hT : TabOk P T) {t e size bytes : Nat} {zs news : List Value} {x y : Operand} {v : Value} {k c m : Nat} {a : Addr} {xs : List Value} {G : List Nat} (hw : wantedE ops env g = true) (hsl : look t T.sls = some (e, size, bytes)) (hz : look e T.zs = some zs) (hzl : Nat.beq zs.length size = true)
    (hx : ev env x = v) (hy : ev env y = .slice (some a) c m) (hl : news.length = c * size) (hc0 : 0 < c) (hcs : ∀ (j : Nat) u, news[j]? = some u → w.cell? (a.add j) = some u) (h1 : ∀ u ∈ news, u.oneCell' = true) (hO : SlV w e size v k xs G)
    (hk : (k + c) * bytes ≤ 140737488355328) (hk' : k + c ≤ 9223372036854775807) (kk : ∀ v' w', (∃ G', SlV w' e size v' (k + c) (xs ++ news) G' ∧ ∀ i ∈ G', i ∈ G ∨ w.heap.size ≤ i) → Only G w w' → XS P ops QE n rest (updO env d v') w') :
    XS P ops QE n (⟨d, .call { callee := .builtin .append, args := #[x, y], argTypes := #[t, t] }, ty, pos, aft, g⟩ :: rest) env w := by
  obtain ⟨hu, i, hi, hs1, hs2⟩ := sl_parts (hT.sl hsl)
  obtain ⟨i', z, hi', hz', hzc⟩ := z_parts (hT.z hz)
  rw [hi] at hi'; cases hi'
  obtain ⟨v', w', hr, h2, h3⟩ := append_w (P := P) (ty := ty) (m := m) hu hi hs1 hs2 hz' (by rw [hzc]; simpa using Nat.eq_of_beq_eq_true hzl) hO hl hc0 hcs h1 hk hk'
  refine XS.value hw (v := v') (w' := w') ?_ (kk v' w' h2 h3)
  simp [execOp, resolve, Sem.run_bind, invoke, builtin, hx, hy, hr]
end
theorem SlV.lt {w : World} {e k n : Nat} {v : Value} {xs : List Value} {G : List Nat} (h : SlV w e k v n xs G) : ∀ b ∈ G, b < w.heap.size := by
  rcases h with ⟨_, _, _, rfl⟩ | ⟨g, cap, cur, _, rfl, _, _, _, _, hg⟩
  · intro b hb; cases hb
  · intro b hb
    obtain rfl := List.mem_singleton.1 hb
    exact lt_of_block hg
theorem SlV.keep {w w' : World} {e k n : Nat} {v : Value} {xs : List Value} {G F : List Nat} (h : SlV w e k v n xs G) (ho : Only F w w') (hd : ∀ b ∈ G, b ∉ F) : SlV w' e k v n xs G := by
  rcases h with ⟨h1, h2, h3, h4⟩ | ⟨g, cap, cur, h1, rfl, h3, h4, h5, h6, hg⟩
  · exact .inl ⟨h1, h2, h3, h4⟩
  · exact .inr ⟨g, cap, cur, h1, rfl, h3, h4, h5, h6, ho.block hg (hd g List.mem_cons_self)⟩
end Go.Proofs.YtilajmcellffiaaGreatDoorX

namespace Go.Proofs.YtilajmcellffiaaGreatDoorX
open Go Go.RowKit
def LsAt (w : World) (E k : Nat) (v : Value) (xs : List (List Value)) : Prop :=
  ∃ ad cap, v = .slice ad xs.length cap ∧ (xs ≠ [] → ∃ (b off : Nat) (cs : List Value) (fz : Nat × Nat), ad = some ⟨b, off, none⟩ ∧ xs.length ≤ cap ∧ w.heap[b]? = some (.cells cs.toArray E fz) ∧ ∀ (i : Nat) x, xs[i]? = some x → Pick cs (off + i * k) k x)
theorem LsAt.nil (w : World) (E k : Nat) : LsAt w E k (.slice none 0 0) [] := ⟨none, 0, rfl, fun h => absurd rfl h⟩
theorem LsAt.keep {w w' : World} {E k : Nat} {v : Value} {xs : List (List Value)} {F : List Nat} (h : LsAt w E k v xs) (ho : Only F w w') (hF : ∀ b ∈ F, ∀ cs fz, w.heap[b]? ≠ some (.cells cs E fz)) : LsAt w' E k v xs := by
  obtain ⟨ad, cap, rfl, h⟩ := h
  refine ⟨ad, cap, rfl, fun hn => ?_⟩
  obtain ⟨b, off, cs, fz, h1, h2, h3, h4⟩ := h hn
  exact ⟨b, off, cs, fz, h1, h2, ho.block h3 (fun hm => hF b hm _ _ h3), h4⟩
theorem LsAt.only {w w' : World} {E k : Nat} {v : Value} {xs : List (List Value)} (h : LsAt w E k v xs) (ho : Only [] w w') : LsAt w' E k v xs := h.keep ho (by simp)
theorem pick_of {cs : List Value} : ∀ {vs : List Value} {off m : Nat}, vs.length = m → (cs.drop off).take m = vs → Pick cs off m vs
  | [], off, m, hm, h => by subst hm; exact .nil
  | v :: vs, off, m, hm, h => by
    subst hm
    have hlt : off < cs.length := by
      rcases Nat.lt_or_ge off cs.length with h' | h'
      · exact h'
      · rw [List.drop_eq_nil_of_le h'] at h; simp at h
    rw [List.drop_eq_getElem_cons hlt] at h
    simp only [List.length_cons, List.take_succ_cons, List.cons.injEq] at h
    exact .cons (by rw [List.getElem?_eq_getElem hlt, h.1]) (pick_of rfl h.2)
theorem flat_row {k : Nat} : ∀ {xs : List (List Value)} {i : Nat} {x : List Value}, (∀ y ∈ xs, y.length = k) → xs[i]? = some x → (xs.flatten.drop (i * k)).take k = x
  | [], i, x, _, h => by simp at h
  | y :: xs, 0, x, hk, h => by
    have h1 := hk y (by simp)
    simp only [List.getElem?_cons_zero, Option.some.injEq] at h
    subst h; subst h1
    simp
  | y :: xs, i + 1, x, hk, h => by
    have h1 := hk y (by simp)
    simp only [List.getElem?_cons_succ] at h
    have ih := flat_row (fun z hz => hk z (List.mem_cons_of_mem _ hz)) h
    rw [List.flatten_cons, List.drop_append, List.drop_eq_nil_of_le (by rw [h1, Nat.succ_mul]; omega), List.nil_append, h1, Nat.succ_mul, Nat.add_sub_cancel]
    exact ih
theorem SlV.ls {w : World} {E k n : Nat} {v : Value} {flat : List Value} {G : List Nat} (h : SlV w E k v n flat G) {xs : List (List Value)} (hf : flat = xs.flatten) (hn : n = xs.length) (hk : ∀ x ∈ xs, x.length = k) : LsAt w E k v xs := by
  subst hn
  rcases h with ⟨rfl, h0, hx, _⟩ | ⟨g, cap, cur, rfl, _, hc, hl, hxl, ht, hg⟩
  · have : xs = [] := by simpa using h0
    subst this
    exact LsAt.nil w E k
  · refine ⟨_, cap, rfl, fun _ => ⟨g, 0, cur, (0, 0), rfl, hc, hg, fun i x hi => ?_⟩⟩
    have hi' : i < xs.length := by
      rcases Nat.lt_or_ge i xs.length with h | h
      · exact h
      · rw [List.getElem?_eq_none h] at hi; cases hi
    have hxk := hk x (List.mem_of_getElem? hi)
    refine pick_of hxk ?_
    have e := flat_row hk hi
    rw [← hf, ← ht, List.drop_take, List.take_take, Nat.min_eq_left] at e
    · rw [Nat.zero_add]; exact e
    · rw [← Nat.sub_mul]
      exact Nat.le_mul_of_pos_left k (by omega)
def minL : List Int → Int
  | [] => 0
  | d :: l => l.foldl (fun a b => if b < a then b else a) d
def maxL : List Int → Int
  | [] => 0
  | d :: l => l.foldl (fun a b => if b > a then b else a) d
theorem minL_snoc (l : List Int) (d : Int) : minL (l ++ [d]) = if l = [] then d else if d < minL l then d else minL l := by
  cases l with
  | nil => rfl
  | cons a l => exact (List.foldl_append ..)
theorem maxL_snoc (l : List Int) (d : Int) : maxL (l ++ [d]) = if l = [] then d else if d > maxL l then d else maxL l := by
  cases l with
  | nil => rfl
  | cons a l => exact (List.foldl_append ..)
section
variable {ops : Array Oper} {QE : Exit → Env → World → Prop} {n : Nat} {rest : List Oper} {env : Env} {w wb : World} {d : Option Nat} {ty : Nat} {pos : String} {aft : Array Edge} {g : Option (Nat × Bool)}
theorem lhK {t b off m : Nat} {x : Operand} {cs vs : List Value} {E : TypeId} {fr : Nat × Nat} (hb : w.heap[b]? = some (.cells cs.toArray E fr)) (hc : Pick cs off (m + 1) vs) (hw : wantedE ops env g = true := by exact rfl) (ht : look t tab.tks = some (true, m + 1) := by exact rfl)
    (hp : ev env x = .pointer (some ⟨b, off, none⟩) := by exact rfl)
    (k : XS Tryz.prog ops QE n rest (updO env d (.agg vs.toArray)) w) : XS Tryz.prog ops QE n (⟨d, .load t x, ty, pos, aft, g⟩ :: rest) env w :=
  xs_val hw (by simp [execOp, hp, Instr.loadAt, Instr.sureAddr, Sem.run_bind, run_loadVar_agg (tabOk.tk ht) hb hc.le, hc.eq.2]) k
end
end Go.Proofs.YtilajmcellffiaaGreatDoorX

namespace Go.Proofs.YtilajmcellffiaaGreatDoorX
open Go Go.RowKit
attribute [local irreducible] XS XC XA thenE blockE retE loopE loopS cutB cutN doneE SE
theorem nx64 {i m : Nat} (h : i < m) (hm : m ≤ 9223372036854775807) : IntKind.i64.wrap ((i : Int) + 1) = ((i + 1 : Nat) : Int) := by
  rw [wrap_i64]; omega
def PsAt (w : World) (v : Value) (ps : List Pt) : Prop := LsAt w 27 3 v (ps.map Pt.cells)
def ItsAt (w : World) (v : Value) (l : List It) : Prop := LsAt w 29 7 v (l.map It.cells)
def sinces (base : Int) (ps : List Pt) : List Int := ps.map fun p => sn p.t base
theorem minL_in {l : List Int} (h : ∀ d ∈ l, In64 d) : In64 (minL l) := by
  cases l with
  | nil => decide
  | cons d l =>
    have : ∀ (l : List Int) (a : Int), In64 a → (∀ d ∈ l, In64 d) → In64 (l.foldl (fun a b => if b < a then b else a) a) := by
      intro l
      induction l with
      | nil => intro a ha _; exact ha
      | cons b l ih =>
        intro a ha hl
        refine ih _ ?_ (fun d hd => hl d (List.mem_cons_of_mem _ hd))
        show In64 (if b < a then b else a)
        split
        · exact hl b List.mem_cons_self
        · exact ha
    exact this l d (h d List.mem_cons_self) fun x hx => h x (List.mem_cons_of_mem _ hx)
theorem maxL_in {l : List Int} (h : ∀ d ∈ l, In64 d) : In64 (maxL l) := by
  cases l with
  | nil => decide
  | cons d l =>
    have : ∀ (l : List Int) (a : Int), In64 a → (∀ d ∈ l, In64 d) → In64 (l.foldl (fun a b => if b > a then b else a) a) := by
      intro l
      induction l with
      | nil => intro a ha _; exact ha
      | cons b l ih =>
        intro a ha hl
        refine ih _ ?_ (fun d hd => hl d (List.mem_cons_of_mem _ hd))
        show In64 (if b > a then b else a)
        split
        · exact hl b List.mem_cons_self
        · exact ha
    exact this l d (h d List.mem_cons_self) fun x hx => h x (List.mem_cons_of_mem _ hx)
theorem take_next {α : Type} {l : List α} {i : Nat} (h : i < l.length) : l.take (i + 1) = l.take i ++ [l[i]] := by simp
set_option maxHeartbeats 2000000 in
theorem floors_ret (base : Int) (ps : List Pt) (sl : Value) (hm : ps.length ≤ 9223372036854775807) (w0 : World) (hP : PsAt w0 sl ps) :
    Ret Tryz.prog 181 #[.int .u64 base, sl] w0 fun v w' => v = .tuple #[.int .i64 (minL (sinces base ps)), .int .i64 (maxL (sinces base ps))] ∧ Only [] w0 w' := by
  obtain ⟨ad, cap, rfl, hD⟩ := hP
  rw [List.length_map] at *
  have hs := St.nil w0
  refine ret_of_xc Tryz.func181 (by kernel_rfl) rfl Tryz.ntmps181 rfl rfl rfl ?_
  repeat' (first|refine vs (k:=?_)|refine qRg ?_|refine Nx.h ?_|fail)
  refine xc_cutB (fun (_ : Unit) => [(4, .int .i64 (minL (sinces base ps))), (5, .int .i64 (maxL (sinces base ps)))]) (fun _ w => St w0 D0 [] w) ?_ ?_
  · refine xc_loopS (fun (i : Nat) => [(0, .int .u64 base), (4, .int .i64 (minL (sinces base (ps.take i)))), (5, .int .i64 (maxL (sinces base (ps.take i)))), (9, .slice ad ps.length cap), (10, .int .i64 (ps.length : Nat)), (11, .int .i64 (i : Nat))])
      (fun i w => i ≤ ps.length ∧ St w0 D0 [] w) (fun i => ps.length - i) 0 (by (repeat (first | exact agree_nil | (apply agree_cons; exact rfl)))) ⟨Nat.zero_le _, hs⟩ fun i env w ⟨hi, hs⟩ => ?_
    repeat' (first|refine vs (k:=?_)|refine qRg ?_|refine Nx.h ?_|(refine xc_if rfl (fun hc=>?_) (fun hc=>?_))|fail)
    · have hlt : i < ps.length := by omega
      obtain ⟨b, off, cs, fz, rfl, _, hb, hcs⟩ := hD (fun h => by simp at h; subst h; cases hlt)
      have hpk := hcs i (Pt.cells ps[i]) (by rw [List.getElem?_map, List.getElem?_eq_getElem hlt]; rfl)
      have hnx : sinces base (ps.take (i + 1)) = sinces base (ps.take i) ++ [sn ps[i].t base] := by rw [take_next hlt]; unfold sinces; rw [List.map_append]; rfl
      have h0 : sinces base (ps.take i) = [] ↔ i = 0 := by
        unfold sinces
        rw [List.map_eq_nil_iff, List.take_eq_nil_iff]
        constructor
        · rintro (h | h)
          · exact h
          · subst h; simp at hlt
        · exact .inl
      have emin := minL_snoc (sinces base (ps.take i)) (sn ps[i].t base)
      have emax := maxL_snoc (sinces base (ps.take i)) (sn ps[i].t base)
      rw [← hnx] at emin emax
      have ei := nx64 hlt hm
      generalize ps[i] = p at *
      refine ix (h0 := (by omega)) (h1 := (by omega)) (k := ?_)
      refine lhK ((hs.only0 rfl).block hb (by simp)) hpk (k := ?_)
      refine al hs (k := ?_); intro b7 w hz hs
      repeat' (first|refine vs (k:=?_)|(refine stA hs (k:=?_);intro w hs)|refine qRg ?_|refine Nx.h ?_|fail)
      (with_reducible apply xs_call); exact rfl; exact rfl; exact since_ret p.t base _
      rintro v w' ⟨rfl, ho⟩; replace hs := hs.call0 ho; repeat' (first|refine vs (k:=?_)|refine qRg ?_|refine Nx.h ?_|(refine xc_if rfl (fun hc=>?_) (fun hc=>?_))|fail)
      · have hi0 : i = 0 := by omega
        rw [if_pos (h0.2 hi0)] at emin emax
        have e1 : (if sn p.t base < sn p.t base then sn p.t base else sn p.t base) = minL (sinces base (ps.take (i + 1))) := by rw [emin]; split <;> rfl
        have e2 : (if sn p.t base > sn p.t base then sn p.t base else sn p.t base) = maxL (sinces base (ps.take (i + 1))) := by rw [emax]; split <;> rfl
        exact loopS_next (i + 1) (by omega) (by (repeat (first | exact agree_nil | (apply agree_cons; first | exact rfl | exact congrArg (Value.int .i64) e1 | exact congrArg (Value.int .i64) e2 | exact congrArg (Value.int .i64) ei)))) ⟨by omega, hs.forgetNew⟩
      · have hi0 : ¬ i = 0 := by omega
        rw [if_neg (fun h => hi0 (h0.1 h))] at emin emax
        exact loopS_next (i + 1) (by omega) (by (repeat (first | exact agree_nil | (apply agree_cons; first | exact rfl | exact congrArg (Value.int .i64) emin.symm | exact congrArg (Value.int .i64) emax.symm | exact congrArg (Value.int .i64) ei)))) ⟨by omega, hs.forgetNew⟩
    · have e : i = ps.length := by omega
      rw [e, List.take_length]
      exact cutB_exit () (by (repeat (first | exact agree_nil | (apply agree_cons; exact rfl)))) hs
  · rintro _ env w hs
    repeat' (first|refine vs (k:=?_)|refine qRg ?_|refine Nx.h ?_|fail)
    first | refine rt (hq := ?_) | refine rt' (hq := ?_)
    exact ⟨rfl, hs.only0 rfl⟩
def soonest (a : It) (l : List It) : It := l.foldl (fun a b => bif due b a then b else a) a
theorem soonest_snoc (a : It) (l : List It) (b : It) : soonest a (l ++ [b]) = bif due b (soonest a l) then b else soonest a l := by unfold soonest; rw [List.foldl_append]; rfl
theorem soonest_in {a : It} (ha : a.In) : ∀ {l : List It}, (∀ b ∈ l, b.In) → (soonest a l).In := by
  intro l
  unfold soonest
  induction l generalizing a with
  | nil => intro _; exact ha
  | cons b l ih =>
    intro hl
    refine ih ?_ (fun c hc => hl c (List.mem_cons_of_mem _ hc))
    show (bif due b a then b else a).In
    cases due b a
    · exact ha
    · exact hl b List.mem_cons_self
set_option maxHeartbeats 2000000 in
theorem soonest_ret (x : It) (l : List It) (sl : Value) (hx : x.In) (hl : ∀ b ∈ l, b.In) (hm : l.length ≤ 9223372036854775807) (w0 : World) (hP : ItsAt w0 sl l) :
    Ret Tryz.prog 174 #[iv x, sl] w0 fun v w' => v = iv (soonest x l) ∧ Only [] w0 w' := by
  obtain ⟨ad, cap, rfl, hD⟩ := hP
  rw [List.length_map] at *
  have hs := St.nil w0
  refine ret_of_xc Tryz.func174 (by kernel_rfl) rfl Tryz.ntmps174 rfl rfl rfl ?_
  refine xc_seq ?_
  refine xc_region ?_ ?_; exact rfl
  refine bx hs (k := ?_); intro b2 w hz hs
  refine al hs (k := ?_); intro b4 w hz hs
  repeat' (first|refine vs (k:=?_)|refine qRg ?_|refine Nx.h ?_|fail)
  refine xc_cutB (fun (_ : Unit) => [(2, .pointer (some ⟨b2, 0, none⟩)), (4, .pointer (some ⟨b4, 0, none⟩))]) (fun _ w => St w0 D0 [(b4, .cells It.zero.cells.toArray 29, true), (b2, .cells (soonest x l).cells.toArray 29, true)] w) ?_ ?_
  · refine xc_loopS (fun (i : Nat) => [(2, .pointer (some ⟨b2, 0, none⟩)), (4, .pointer (some ⟨b4, 0, none⟩)), (7, .slice ad l.length cap), (8, .int .i64 (l.length : Nat)), (9, .int .i64 (i : Nat))])
      (fun i w => i ≤ l.length ∧ St w0 D0 [(b4, .cells It.zero.cells.toArray 29, true), (b2, .cells (soonest x (l.take i)).cells.toArray 29, true)] w) (fun i => l.length - i) 0 (by (repeat (first | exact agree_nil | (apply agree_cons; exact rfl)))) ⟨Nat.zero_le _, hs⟩ fun i env w ⟨hi, hs⟩ => ?_
    repeat' (first|refine vs (k:=?_)|refine qRg ?_|refine Nx.h ?_|(refine xc_if rfl (fun hc=>?_) (fun hc=>?_))|fail)
    · have hlt : i < l.length := by omega
      obtain ⟨b, off, cs, fz, rfl, _, hb, hcs⟩ := hD (fun h => by simp at h; subst h; cases hlt)
      have hpk := hcs i (It.cells l[i]) (by rw [List.getElem?_map, List.getElem?_eq_getElem hlt]; rfl)
      have hsn := soonest_snoc x (l.take i) l[i]
      rw [← take_next hlt] at hsn
      have hin := hl l[i] (List.getElem_mem hlt)
      have hin2 := soonest_in hx (l := l.take i) (fun c hc => hl c (List.mem_of_mem_take hc))
      have ei := nx64 hlt hm
      generalize l[i] = q at *
      generalize soonest x (l.take i) = y at *
      refine ix (h0 := (by omega)) (h1 := (by omega)) (k := ?_)
      refine lhK ((hs.only0 rfl).block hb (by simp)) hpk (k := ?_)
      refine al hs (k := ?_); intro b6 w hz hs
      repeat' (first|refine vs (k:=?_)|(refine stA hs (k:=?_);intro w hs)|refine qRg ?_|refine Nx.h ?_|fail)
      (with_reducible apply xs_call); exact rfl; exact rfl; exact due_ret q y hin hin2 _
      rintro v w' ⟨rfl, ho⟩; replace hs := hs.call0 ho; repeat' (first|refine vs (k:=?_)|(refine stA hs (k:=?_);intro w hs)|refine qRg ?_|refine Nx.h ?_|(refine xc_cond rfl (fun hc=>?_) (fun hc=>?_))|fail)
      · rw [hc, cond_true] at hsn
        exact loopS_next (i + 1) (by omega) (by (repeat (first | exact agree_nil | (apply agree_cons; first | exact rfl | exact congrArg (Value.int .i64) ei)))) ⟨by omega, by rw [hsn]; exact hs.forgetNew⟩
      · rw [hc, cond_false] at hsn
        exact loopS_next (i + 1) (by omega) (by (repeat (first | exact agree_nil | (apply agree_cons; first | exact rfl | exact congrArg (Value.int .i64) ei)))) ⟨by omega, by rw [hsn]; exact hs.forgetNew⟩
    · have e : i = l.length := by omega
      rw [e, List.take_length] at hs
      exact cutB_exit () (by (repeat (first | exact agree_nil | (apply agree_cons; exact rfl)))) hs
  · rintro _ env w hs
    repeat' (first|refine vs (k:=?_)|(refine stA hs (k:=?_);intro w hs)|refine qRg ?_|refine Nx.h ?_|fail)
    first | refine rt (hq := ?_) | refine rt' (hq := ?_)
    exact ⟨rfl, hs.only0 rfl⟩
end Go.Proofs.YtilajmcellffiaaGreatDoorX

namespace Go.Proofs.YtilajmcellffiaaGreatDoorX
open Go Go.RowKit
attribute [local irreducible] XS XC XA thenE blockE retE loopE loopS cutB cutN doneE SE
structure Rq where
  i : It
  left : Int
  slice : Int
  asleep : Bool
deriving DecidableEq
abbrev Rq.cells (r : Rq) : List Value := [.int .u64 r.i.p.t, .int .u32 r.i.p.r, .int .u32 r.i.p.w, .int .i64 r.i.id, .int .u64 r.i.d.t, .int .u32 r.i.d.r, .int .u32 r.i.d.w, .int .u64 r.left, .int .u64 r.slice, .bool r.asleep]
def rv (r : Rq) : Value := .agg #[.int .u64 r.i.p.t, .int .u32 r.i.p.r, .int .u32 r.i.p.w, .int .i64 r.i.id, .int .u64 r.i.d.t, .int .u32 r.i.d.r, .int .u32 r.i.d.w, .int .u64 r.left, .int .u64 r.slice, .bool r.asleep]
def Rq.In (r : Rq) : Prop := r.i.In ∧ U64 r.left ∧ U64 r.slice
instance decRqIn (r : Rq) : Decidable r.In := by unfold Rq.In; infer_instance
def Rq.zero : Rq := ⟨.zero, 0, 0, false⟩
def mayN (n : Int) : Bool := decide (1 ≤ n) && decide (n ≤ 1099511627776)
theorem mayN_iff {n : Int} : mayN n = true ↔ 1 ≤ n ∧ n ≤ 1099511627776 := by unfold mayN; simp
theorem may_ret (n : Int) (w0 : World) : Ret Tryz.prog 128 #[.int .u64 n] w0 fun v w' => v = .bool (mayN n) ∧ Only [] w0 w' := by
  have hs := St.nil w0
  refine ret_of_xc Tryz.func128 (by kernel_rfl) rfl Tryz.ntmps128 rfl rfl rfl ?_
  repeat' (first|refine vs (k:=?_)|refine ps (k:=?_)|refine qRg ?_|refine Nx.h ?_|((with_reducible apply xs_guard);exact rfl;exact rfl;intro c hc;(fail_if_success have:true=c:=hc);(fail_if_success have:false=c:=hc);cases c)|fail)
  all_goals (first | refine rt (hq := ?_) | refine rt' (hq := ?_))
  all_goals refine ⟨?_, hs.only0 rfl⟩
  all_goals clear hs
  · have h1 : decide (1 ≤ n) = false := hc
    unfold mayN; rw [h1]; rfl
  · have h1 : decide (1 ≤ n) = true := hc
    unfold mayN; rw [h1]; rfl
def dueP (p : Pt) (n : Int) : Pt := (movP p (n * 1048576)).getD .zero
theorem ptD_in {o : Option Pt} (h : ∀ p, o = some p → p.In) : (o.getD .zero).In := by
  cases o with
  | none => decide
  | some p => exact h p rfl
theorem dueP_in (p : Pt) (n : Int) : (dueP p n).In := ptD_in fun q h => (at_some h).1
theorem rdue_ret (p : Pt) (n : Int) (hp' : p.In) (h0 : 0 ≤ n) (h1 : n ≤ 1099511627776) (w0 : World) : Ret Tryz.prog 129 #[pv p, .int .u64 n] w0 fun v w' => v = pv (dueP p n) ∧ Only [] w0 w' := by
  have e : IntKind.u64.wrap (n * 1048576) = n * 1048576 := by rw [wrap_u64]; omega
  have hs := St.nil w0
  refine ret_of_xc Tryz.func129 (by kernel_rfl) rfl Tryz.ntmps129 rfl rfl rfl ?_
  repeat' (first|refine vs (k:=?_)|(refine al hs (k:=?_);intro b w hz hs)|(refine bx hs (k:=?_);intro b w hz hs)|refine qRg ?_|refine Nx.h ?_|fail)
  (with_reducible apply xs_call); exact rfl; exact rfl; exact move_ret p (IntKind.u64.wrap (n * 1048576)) hp' (by rw [e]; exact ⟨by omega, by omega⟩) _
  rw [e]
  rintro v w' ⟨rfl, ho⟩; replace hs := hs.call0 ho; repeat' (first|refine vs (k:=?_)|(refine stA hs (k:=?_);intro w hs)|(refine al hs (k:=?_);intro b w hz hs)|refine qRg ?_|refine Nx.h ?_|fail)
  first | refine rt (hq := ?_) | refine rt' (hq := ?_)
  exact ⟨rfl, hs.only0 rfl⟩
def Rq.right (r : Rq) : Bool := r.i.right && mayN r.left && mayN r.slice && decide (dueP r.i.p r.left = r.i.d)
theorem eqPt (p q : Pt) : (cellEq (.int .u64 p.t) (.int .u64 q.t) && (cellEq (.int .u32 p.r) (.int .u32 q.r) && cellEq (.int .u32 p.w) (.int .u32 q.w))) = decide (p = q) := by
  show ((p.t == q.t) && ((p.r == q.r) && (p.w == q.w))) = _
  obtain ⟨a, b, c⟩ := p
  obtain ⟨a', b', c'⟩ := q
  simp only [Pt.mk.injEq]
  by_cases h1 : a = a' <;> by_cases h2 : b = b' <;> by_cases h3 : c = c' <;> simp [h1, h2, h3]
set_option maxHeartbeats 4000000 in
theorem rright_ret (r : Rq) (hr : r.In) (w0 : World) : Ret Tryz.prog 102 #[rv r] w0 fun v w' => v = .bool r.right ∧ Only [] w0 w' := by
  have hs := St.nil w0
  refine ret_of_xc Tryz.func102 (by kernel_rfl) rfl Tryz.ntmps102 rfl rfl rfl ?_
  repeat' (first|refine vs (k:=?_)|(refine bx hs (k:=?_);intro b w hz hs)|refine qRg ?_|refine Nx.h ?_|fail)
  refine dr [] hs (k := ?_); intro hX w hs
  refine tk 0 hX (k := ?_)
  refine tk 1 hX (k := ?_)
  refine dt 2 hX (k := ?_)
  (with_reducible apply xs_call); exact rfl; exact rfl; exact iright_ret r.i _
  rintro v w' ⟨rfl, ho⟩; replace hs := hs.call0 ho; repeat' (first|refine Nx.h ?_|fail)
  refine dn (k := ?_)
  refine tk 3 hX (k := ?_)
  refine xa_late 6 rfl ?_; intro c q1; cases c
  · refine pt 4 hX (k := ?_)
    refine pt 5 hX (k := ?_)
    refine pt 6 hX (k := ?_)
    refine tk 7 hX (k := ?_)
    refine tk 8 hX (k := ?_)
    refine pt 9 hX (k := ?_)
    refine pt 10 hX (k := ?_)
    refine pt 11 hX (k := ?_)
    refine tk 12 hX (k := ?_)
    refine tk 13 hX (k := ?_)
    refine pt 14 hX (k := ?_)
    refine pt 15 hX (k := ?_)
    refine pt 16 hX (k := ?_)
    refine pt 17 hX (k := ?_)
    refine pt 18 hX (k := ?_)
    refine pt 19 hX (k := ?_)
    refine pt 20 hX (k := ?_)
    refine pt 21 hX (k := ?_)
    refine pt 22 hX (k := ?_)
    refine pt 23 hX (k := ?_)
    refine tk 24 hX (k := ?_)
    refine tk 25 hX (k := ?_)
    refine en (k := ?_)
    repeat' (first|refine Nx.h ?_|fail)
    first | refine rt (hq := ?_) | refine rt' (hq := ?_)
    refine ⟨?_, hs.only0 rfl⟩
    unfold Rq.right; rw [q1]; rfl
  · refine tk 4 hX (k := ?_)
    refine tk 5 hX (k := ?_)
    refine dt 6 hX (k := ?_)
    (with_reducible apply xs_call); exact rfl; exact rfl; exact may_ret r.left _
    rintro v w' ⟨rfl, ho⟩; replace hs := hs.call0 ho; repeat' (first|refine Nx.h ?_|fail)
    refine dn (k := ?_)
    refine tk 7 hX (k := ?_)
    refine tk 8 hX (k := ?_)
    refine xa_late 11 rfl ?_; intro c q2; cases c
    · refine pt 9 hX (k := ?_)
      refine pt 10 hX (k := ?_)
      refine pt 11 hX (k := ?_)
      refine tk 12 hX (k := ?_)
      refine tk 13 hX (k := ?_)
      refine pt 14 hX (k := ?_)
      refine pt 15 hX (k := ?_)
      refine pt 16 hX (k := ?_)
      refine pt 17 hX (k := ?_)
      refine pt 18 hX (k := ?_)
      refine pt 19 hX (k := ?_)
      refine pt 20 hX (k := ?_)
      refine pt 21 hX (k := ?_)
      refine pt 22 hX (k := ?_)
      refine pt 23 hX (k := ?_)
      refine tk 24 hX (k := ?_)
      refine tk 25 hX (k := ?_)
      refine en (k := ?_)
      repeat' (first|refine Nx.h ?_|fail)
      first | refine rt (hq := ?_) | refine rt' (hq := ?_)
      refine ⟨?_, hs.only0 rfl⟩
      unfold Rq.right; rw [q1, q2]; rfl
    · refine tk 9 hX (k := ?_)
      refine tk 10 hX (k := ?_)
      refine dt 11 hX (k := ?_)
      (with_reducible apply xs_call); exact rfl; exact rfl; exact may_ret r.slice _
      rintro v w' ⟨rfl, ho⟩; replace hs := hs.call0 ho; repeat' (first|refine Nx.h ?_|fail)
      refine dn (k := ?_)
      refine tk 12 hX (k := ?_)
      refine tk 13 hX (k := ?_)
      refine xa_late 16 rfl ?_; intro c q3; cases c
      · refine pt 14 hX (k := ?_)
        refine pt 15 hX (k := ?_)
        refine pt 16 hX (k := ?_)
        refine pt 17 hX (k := ?_)
        refine pt 18 hX (k := ?_)
        refine pt 19 hX (k := ?_)
        refine pt 20 hX (k := ?_)
        refine pt 21 hX (k := ?_)
        refine pt 22 hX (k := ?_)
        refine pt 23 hX (k := ?_)
        refine tk 24 hX (k := ?_)
        refine tk 25 hX (k := ?_)
        refine en (k := ?_)
        repeat' (first|refine Nx.h ?_|fail)
        first | refine rt (hq := ?_) | refine rt' (hq := ?_)
        refine ⟨?_, hs.only0 rfl⟩
        unfold Rq.right; rw [q1, q2, q3]; rfl
      · have h2 := mayN_iff.1 q2
        refine tk 14 hX (k := ?_)
        refine tk 15 hX (k := ?_)
        refine tk 16 hX (k := ?_)
        refine tk 17 hX (k := ?_)
        refine tk 18 hX (k := ?_)
        refine tk 20 hX (k := ?_)
        refine tk 21 hX (k := ?_)
        refine tk 22 hX (k := ?_)
        refine dt 19 hX (k := ?_)
        (with_reducible apply xs_call); exact rfl; exact rfl; exact rdue_ret r.i.p r.left hr.1.1 (by omega) h2.2 _
        rintro v w' ⟨rfl, ho⟩; replace hs := hs.call0 ho; repeat' (first|refine Nx.h ?_|fail)
        refine dn (k := ?_)
        refine tk 23 hX (k := ?_)
        refine tk 24 hX (k := ?_)
        refine tk 25 hX (k := ?_)
        refine en (k := ?_)
        repeat' (first|refine Nx.h ?_|fail)
        first | refine rt (hq := ?_) | refine rt' (hq := ?_)
        refine ⟨?_, hs.only0 rfl⟩
        unfold Rq.right; rw [q1, q2, q3]
        show Value.bool _ = Value.bool _
        rw [eqPt]; rfl
def fixR (r : Rq) : Rq := bif mayN r.left then ⟨⟨r.i.p, r.i.id, dueP r.i.p r.left⟩, r.left, r.slice, r.asleep⟩ else r
def setR (r : Rq) : Option Rq := bif (fixR r).right then some (fixR r) else none
theorem fixR_in {r : Rq} (h : r.In) : (fixR r).In := by
  unfold fixR
  cases mayN r.left
  · exact h
  · exact ⟨⟨h.1.1, h.1.2.1, dueP_in _ _⟩, h.2⟩
def rqV (o : Option Rq) : Value := .tuple #[rv (o.getD .zero), .bool o.isSome]
set_option maxHeartbeats 4000000 in
theorem rset_ret (r : Rq) (hr : r.In) (w0 : World) : Ret Tryz.prog 98 #[rv r] w0 fun v w' => v = rqV (setR r) ∧ Only [] w0 w' := by
  have hs := St.nil w0
  refine ret_of_xc Tryz.func98 (by kernel_rfl) rfl Tryz.ntmps98 rfl rfl rfl ?_
  refine xc_seq ?_
  refine xc_region ?_ ?_; exact rfl
  refine bx hs (k := ?_); intro b1 w hz hs
  refine al hs (k := ?_); intro b2 w hz hs
  refine vs (k := ?_)
  refine XS.nil ?_
  refine then_of ?_
  refine xc_seq ?_
  refine xc_cutN (fun _ : Unit => [(1, .pointer (some ⟨b1, 0, none⟩)), (2, .pointer (some ⟨b2, 0, none⟩))]) (fun _ w => St w0 D0 [(b2, .cells Rq.zero.cells.toArray 31, true), (b1, .cells (fixR r).cells.toArray 31, true)] w) ?_ ?_
  · repeat' (first|refine vs (k:=?_)|refine qRg ?_|refine Nx.h ?_|fail)
    (with_reducible apply xs_call); exact rfl; exact rfl; exact may_ret r.left _
    generalize hq : mayN r.left = q
    cases q
    · have e : fixR r = r := by unfold fixR; rw [hq]; rfl
      rw [e]
      rintro v w' ⟨rfl, ho⟩; replace hs := hs.call0 ho; repeat' (first|refine Nx.h ?_|refine qCf ?_|fail)
      exact cutN_normal () (by (repeat (first | exact agree_nil | (apply agree_cons; exact rfl)))) hs
    · have e : fixR r = ⟨⟨r.i.p, r.i.id, dueP r.i.p r.left⟩, r.left, r.slice, r.asleep⟩ := by unfold fixR; rw [hq]; rfl
      have h2 := mayN_iff.1 hq
      rw [e]
      rintro v w' ⟨rfl, ho⟩; replace hs := hs.call0 ho; repeat' (first|refine vs (k:=?_)|refine qRg ?_|refine Nx.h ?_|refine qCt ?_|fail)
      (with_reducible apply xs_call); exact rfl; exact rfl; exact rdue_ret r.i.p r.left hr.1.1 (by omega) h2.2 _
      rintro v w' ⟨rfl, ho⟩; replace hs := hs.call0 ho; repeat' (first|refine vs (k:=?_)|(refine stA hs (k:=?_);intro w hs)|refine Nx.h ?_|fail)
      exact cutN_normal () (by (repeat (first | exact agree_nil | (apply agree_cons; exact rfl)))) hs
  clear hs
  rintro _ env w hs
  have hf := fixR_in hr
  unfold setR
  generalize fixR r = u at *
  repeat' (first|refine vs (k:=?_)|refine qRg ?_|refine Nx.h ?_|fail)
  (with_reducible apply xs_call); exact rfl; exact rfl; exact rright_ret u hf _
  generalize hq : u.right = q
  cases q
  · rintro v w' ⟨rfl, ho⟩; replace hs := hs.call0 ho; repeat' (first|refine vs (k:=?_)|(refine stA hs (k:=?_);intro w hs)|refine qRg ?_|refine Nx.h ?_|refine qCt ?_|fail)
    first | refine rt (hq := ?_) | refine rt' (hq := ?_)
    exact ⟨rfl, hs.only0 rfl⟩
  · rintro v w' ⟨rfl, ho⟩; replace hs := hs.call0 ho; repeat' (first|refine vs (k:=?_)|(refine stA hs (k:=?_);intro w hs)|refine qRg ?_|refine Nx.h ?_|refine qCf ?_|fail)
    first | refine rt (hq := ?_) | refine rt' (hq := ?_)
    exact ⟨rfl, hs.only0 rfl⟩
def newR (p : Pt) (id n : Int) : Option Rq := setR ⟨⟨p, id, .zero⟩, n, n, false⟩
theorem rnew_ret (p : Pt) (id n : Int) (hp' : p.In) (hi : In64 id) (hn : U64 n) (w0 : World) : Ret Tryz.prog 58 #[pv p, .int .i64 id, .int .u64 n] w0 fun v w' => v = rqV (newR p id n) ∧ Only [] w0 w' := by
  have hs := St.nil w0
  refine ret_of_xc Tryz.func58 (by kernel_rfl) rfl Tryz.ntmps58 rfl rfl rfl ?_
  repeat' (first|refine vs (k:=?_)|(refine al hs (k:=?_);intro b w hz hs)|(refine bx hs (k:=?_);intro b w hz hs)|refine qRg ?_|refine Nx.h ?_|fail)
  (with_reducible apply xs_call); exact rfl; exact rfl; exact rset_ret ⟨⟨p, id, .zero⟩, n, n, false⟩ ⟨⟨hp', hi, (by decide : Pt.zero.In)⟩, hn, hn⟩ _
  rintro v w' ⟨rfl, ho⟩; replace hs := hs.call0 ho; repeat' (first|refine vs (k:=?_)|(refine stA hs (k:=?_);intro w hs)|refine Nx.h ?_|fail)
  first | refine rt (hq := ?_) | refine rt' (hq := ?_)
  exact ⟨rfl, hs.only0 rfl⟩
end Go.Proofs.YtilajmcellffiaaGreatDoorX

namespace Go.Proofs.YtilajmcellffiaaGreatDoorX
open Go Go.RowKit
attribute [local irreducible] XS XC XA thenE blockE retE loopE loopS cutB cutN doneE SE
theorem setR_in {r u : Rq} (h : r.In) (e : setR r = some u) : u.In ∧ u.right = true := by
  unfold setR at e
  cases hq : (fixR r).right
  · rw [hq] at e; cases e
  · rw [hq, cond_true] at e
    cases e
    exact ⟨fixR_in h, hq⟩
def lessR (r : Rq) (p : Pt) (n : Int) : Rq := ⟨⟨p, r.i.id, r.i.d⟩, bif decide (r.left - n = 0) then r.slice else r.left - n, r.slice, r.asleep⟩
def serveR (r : Rq) (n : Int) : Option (Rq × Bool) :=
  if r.right = true ∧ n ≠ 0 ∧ n ≤ r.left then (match movP r.i.p (n * 1048576) with | none => none | some p => (setR (lessR r p n)).map fun u => (u, decide (r.left - n = 0))) else none
def svV (o : Option (Rq × Bool)) : Value := match o with
  | none => .tuple #[rv .zero, .bool false, .bool false]
  | some (u, b) => .tuple #[rv u, .bool b, .bool true]
theorem right_left {r : Rq} (h : r.right = true) : 1 ≤ r.left ∧ r.left ≤ 1099511627776 ∧ 1 ≤ r.slice ∧ r.slice ≤ 1099511627776 := by
  unfold Rq.right at h
  simp only [Bool.and_eq_true] at h
  have h1 := mayN_iff.1 h.1.1.2
  have h2 := mayN_iff.1 h.1.2
  omega
theorem lessR_in {r : Rq} {p : Pt} {n : Int} (hr : r.In) (hp : p.In) (h0 : 0 ≤ n) (h1 : n ≤ r.left) : (lessR r p n).In := by
  refine ⟨⟨hp, hr.1.2⟩, ?_, hr.2.2⟩
  show U64 (bif decide (r.left - n = 0) then r.slice else r.left - n)
  cases decide (r.left - n = 0)
  · have := hr.2.1; unfold U64 at *; simp only [cond_false]; omega
  · exact hr.2.2
set_option maxHeartbeats 4000000 in
theorem rserve_ret (r : Rq) (n : Int) (hr : r.In) (hn : U64 n) (w0 : World) : Ret Tryz.prog 171 #[rv r, .int .u64 n] w0 fun v w' => v = svV (serveR r n) ∧ Only [] w0 w' := by
  have hs := St.nil w0
  refine ret_of_xc Tryz.func171 (by kernel_rfl) rfl Tryz.ntmps171 rfl rfl rfl ?_
  refine xc_seq ?_
  refine xc_region ?_ ?_; exact rfl
  refine bx hs (k := ?_); intro b2 w hz hs
  refine al hs (k := ?_); intro b4 w hz hs
  repeat' (first|refine vs (k:=?_)|refine qRg ?_|refine Nx.h ?_|fail)
  (with_reducible apply xs_call); exact rfl; exact rfl; exact rright_ret r hr _
  rintro v w' ⟨rfl, ho⟩; replace hs := hs.call0 ho; repeat' (first|refine vs (k:=?_)|refine ps (k:=?_)|(refine stA hs (k:=?_);intro w hs)|refine qRg ?_|refine Nx.h ?_|refine qCt ?_|((with_reducible apply xs_guard);exact rfl;exact rfl;intro c hc;(fail_if_success have:true=c:=hc);(fail_if_success have:false=c:=hc);cases c)|(refine xc_if rfl (fun hc=>?_) (fun hc=>?_))|fail)
  · first | refine rt (hq := ?_) | refine rt' (hq := ?_)
    refine ⟨?_, hs.only0 rfl⟩
    have : serveR r n = none := by unfold serveR; rw [if_neg (fun h => by omega)]
    rw [this]; rfl
  · have h1 : r.right = true := by simpa using ‹(!r.right) = false›
    have h2 : n ≠ 0 := by simpa using ‹(n == 0) = false›
    have h3 : n ≤ r.left := by omega
    have h4 := right_left h1
    have hn' := hn
    obtain ⟨hn0, hn1⟩ := hn'
    have e1 : IntKind.u64.wrap (n * 1048576) = n * 1048576 := by rw [wrap_u64]; omega
    have ev : serveR r n = match movP r.i.p (n * 1048576) with | none => none | some p => (setR (lessR r p n)).map fun u => (u, decide (r.left - n = 0)) := by unfold serveR; rw [if_pos ⟨h1, h2, h3⟩]
    (with_reducible apply xs_call); exact rfl; exact rfl; exact move_ret r.i.p (IntKind.u64.wrap (n * 1048576)) hr.1.1 (by rw [e1]; exact ⟨by omega, by omega⟩) _
    rw [e1]
    cases hp : movP r.i.p (n * 1048576) with
    | none =>
      rintro v w' ⟨rfl, ho⟩; replace hs := hs.call0 ho; repeat' (first|refine vs (k:=?_)|(refine stA hs (k:=?_);intro w hs)|(refine al hs (k:=?_);intro b w hz hs)|refine qRg ?_|refine Nx.h ?_|refine qCt ?_|fail)
      first | refine rt (hq := ?_) | refine rt' (hq := ?_)
      refine ⟨?_, hs.only0 rfl⟩
      rw [ev, hp]; rfl
    | some p =>
      have hpin := (at_some hp).1
      have e2 : IntKind.u64.wrap (r.left - n) = r.left - n := by rw [wrap_u64]; omega
      rw [hp] at ev
      simp only at ev
      have hlin := lessR_in hr hpin hn0 h3
      have ele : (lessR r p n).left = if IntKind.u64.wrap (r.left - n) = 0 then r.slice else IntKind.u64.wrap (r.left - n) := by
        rw [e2]; unfold lessR
        by_cases h : r.left - n = 0
        · rw [if_pos h, decide_eq_true h]; rfl
        · rw [if_neg h, decide_eq_false h]; rfl
      rintro v w' ⟨rfl, ho⟩; replace hs := hs.call0 ho
      repeat' (first|refine vs (k:=?_)|(refine st hs (k:=?_);intro w hs)|(refine stA hs (k:=?_);intro w hs)|(refine al hs (k:=?_);intro b w hz hs)|refine qRg ?_|refine Nx.h ?_|refine qCf ?_|(refine xc_if rfl (fun hc=>?_) (fun hc=>?_))|fail)
      · have ez : r.left - n = 0 := by rw [← e2]; assumption
        have el : lessR r p n = ⟨⟨p, r.i.id, r.i.d⟩, r.slice, r.slice, r.asleep⟩ := by unfold lessR; rw [decide_eq_true ez]; rfl
        rw [el] at ev hlin
        rw [decide_eq_true ez] at ev
        have eb : (IntKind.u64.wrap (r.left - n) == 0) = true := by rw [e2, ez]; rfl
        (with_reducible apply xs_call); exact rfl; exact rfl; exact rset_ret ⟨⟨p, r.i.id, r.i.d⟩, r.slice, r.slice, r.asleep⟩ hlin _
        generalize setR ⟨⟨p, r.i.id, r.i.d⟩, r.slice, r.slice, r.asleep⟩ = o at *
        cases o
        · rintro v w' ⟨rfl, ho⟩; replace hs := hs.call0 ho; repeat' (first|refine vs (k:=?_)|(refine stA hs (k:=?_);intro w hs)|refine qRg ?_|refine Nx.h ?_|refine qCt ?_|fail)
          first | refine rt (hq := ?_) | refine rt' (hq := ?_)
          exact ⟨by rw [ev]; rfl, hs.only0 rfl⟩
        · rintro v w' ⟨rfl, ho⟩; replace hs := hs.call0 ho; repeat' (first|refine vs (k:=?_)|(refine stA hs (k:=?_);intro w hs)|refine qRg ?_|refine Nx.h ?_|refine qCf ?_|fail)
          first | refine rt (hq := ?_) | refine rt' (hq := ?_)
          exact ⟨by rw [ev, eb]; rfl, hs.only0 rfl⟩
      · have ez : ¬r.left - n = 0 := by rw [← e2]; assumption
        have el : lessR r p n = ⟨⟨p, r.i.id, r.i.d⟩, IntKind.u64.wrap (r.left - n), r.slice, r.asleep⟩ := by unfold lessR; rw [decide_eq_false ez, e2]; rfl
        rw [el] at ev hlin
        rw [decide_eq_false ez] at ev
        have eb : (IntKind.u64.wrap (r.left - n) == 0) = false := beq_false_of_ne (by rw [e2]; exact ez)
        (with_reducible apply xs_call); exact rfl; exact rfl; exact rset_ret ⟨⟨p, r.i.id, r.i.d⟩, IntKind.u64.wrap (r.left - n), r.slice, r.asleep⟩ hlin _
        generalize setR ⟨⟨p, r.i.id, r.i.d⟩, IntKind.u64.wrap (r.left - n), r.slice, r.asleep⟩ = o at *
        cases o
        · rintro v w' ⟨rfl, ho⟩; replace hs := hs.call0 ho; repeat' (first|refine vs (k:=?_)|(refine stA hs (k:=?_);intro w hs)|refine qRg ?_|refine Nx.h ?_|refine qCt ?_|fail)
          first | refine rt (hq := ?_) | refine rt' (hq := ?_)
          exact ⟨by rw [ev]; rfl, hs.only0 rfl⟩
        · rintro v w' ⟨rfl, ho⟩; replace hs := hs.call0 ho; repeat' (first|refine vs (k:=?_)|(refine stA hs (k:=?_);intro w hs)|refine qRg ?_|refine Nx.h ?_|refine qCf ?_|fail)
          first | refine rt (hq := ?_) | refine rt' (hq := ?_)
          exact ⟨by rw [ev, eb]; rfl, hs.only0 rfl⟩
  · first | refine rt (hq := ?_) | refine rt' (hq := ?_)
    refine ⟨?_, hs.only0 rfl⟩
    have : serveR r n = none := by unfold serveR; rw [if_neg (fun h => by simp_all)]
    rw [this]; rfl
  · first | refine rt (hq := ?_) | refine rt' (hq := ?_)
    refine ⟨?_, hs.only0 rfl⟩
    have : serveR r n = none := by unfold serveR; rw [if_neg (fun h => by simp_all)]
    rw [this]; rfl
end Go.Proofs.YtilajmcellffiaaGreatDoorX

namespace Go.Proofs.YtilajmcellffiaaGreatDoorX
open Go Go.RowKit
attribute [local irreducible] XS XC XA thenE blockE retE loopE loopS cutB cutN doneE SE
def lessN (n a : Int) : Int := if a < n then a else n
theorem lessN_in {n a : Int} (h1 : U64 n) (h2 : U64 a) : U64 (lessN n a) := by
  unfold lessN U64 at *; split <;> omega
def servedL : Rq → Nat → List Int → Option (Rq × Nat)
  | r, c, [] => some (r, c)
  | r, c, n :: l => match serveR r (lessN n r.left) with
    | none => none
    | some (u, b) => servedL u (c + bif b then 1 else 0) l
def sdV (o : Option (Rq × Nat)) : Value := match o with
  | none => .tuple #[rv .zero, .int .i64 0, .bool false]
  | some (u, c) => .tuple #[rv u, .int .i64 c, .bool true]
theorem serveR_in {r u : Rq} {n : Int} {b : Bool} (hr : r.In) (hn : U64 n) (h : serveR r n = some (u, b)) : u.In := by
  unfold serveR at h
  split at h
  · rename_i h1
    cases hp : movP r.i.p (n * 1048576) with
    | none => rw [hp] at h; cases h
    | some p =>
      rw [hp] at h
      obtain ⟨v, hv, h⟩ := Option.map_eq_some_iff.1 h
      cases h
      exact (setR_in (lessR_in hr (at_some hp).1 hn.1 h1.2.2) hv).1
  · cases h
theorem servedL_cons {r : Rq} {c : Nat} {n : Int} {l : List Int} : servedL r c (n :: l) = match serveR r (lessN n r.left) with
    | none => none
    | some (u, b) => servedL u (c + bif b then 1 else 0) l := rfl
set_option maxHeartbeats 2000000 in
theorem rserved_ret (r : Rq) (ns : List Int) (sl : Value) (hr : r.In) (hn : ∀ n ∈ ns, U64 n) (hm : ns.length ≤ 1000000) (w0 : World) (hL : LsAt w0 22 1 sl (ns.map fun n => [.int .u64 n])) :
    Ret Tryz.prog 130 #[rv r, sl] w0 fun v w' => v = sdV (servedL r 0 ns) ∧ Only [] w0 w' := by
  obtain ⟨ad, cap, rfl, hD⟩ := hL
  rw [List.length_map] at *
  have hs := St.nil w0
  refine ret_of_xc Tryz.func130 (by kernel_rfl) rfl Tryz.ntmps130 rfl rfl rfl ?_
  refine xc_seq ?_
  refine xc_region ?_ ?_; exact rfl
  refine bx hs (k := ?_); intro b2 w hz hs
  refine al hs (k := ?_); intro b4 w hz hs
  repeat' (first|refine vs (k:=?_)|refine qRg ?_|refine Nx.h ?_|fail)
  refine xc_cutB (fun (s : Rq × Nat) => [(2, .pointer (some ⟨b2, 0, none⟩)), (4, .pointer (some ⟨b4, 0, none⟩)), (7, .int .i64 (s.2 : Nat))]) (fun s w => St w0 D0 [(b4, .cells Rq.zero.cells.toArray 31, true), (b2, .cells s.1.cells.toArray 31, true)] w ∧ servedL r 0 ns = some s) ?_ ?_
  · refine xc_loopS (fun (s : Nat × Rq × Nat) => [(2, .pointer (some ⟨b2, 0, none⟩)), (4, .pointer (some ⟨b4, 0, none⟩)), (7, .int .i64 (s.2.2 : Nat)), (13, .slice ad ns.length cap), (14, .int .i64 (ns.length : Nat)), (15, .int .i64 (s.1 : Nat))])
      (fun s w => s.1 ≤ ns.length ∧ s.2.2 ≤ s.1 ∧ s.2.1.In ∧ servedL r 0 ns = servedL s.2.1 s.2.2 (ns.drop s.1) ∧ St w0 D0 [(b4, .cells Rq.zero.cells.toArray 31, true), (b2, .cells s.2.1.cells.toArray 31, true)] w) (fun s => ns.length - s.1) (0, r, 0) (by (repeat (first | exact agree_nil | (apply agree_cons; exact rfl)))) ⟨Nat.zero_le _, Nat.le_refl _, hr, rfl, hs⟩ fun s env wl ⟨hi, hc0, hu, hv, hs⟩ => ?_
    obtain ⟨i, u, c⟩ := s
    simp only at hi hc0 hu hv hs
    repeat' (first|refine vs (k:=?_)|refine qRg ?_|refine Nx.h ?_|(refine xc_if rfl (fun hc=>?_) (fun hc=>?_))|fail)
    · have hlt : i < ns.length := by omega
      obtain ⟨b, off, cs, fz, rfl, _, hb, hcs⟩ := hD (fun h => by simp at h; subst h; cases hlt)
      have hpk := hcs i [.int .u64 ns[i]] (by rw [List.getElem?_map, List.getElem?_eq_getElem hlt]; rfl)
      have ei := nx64 (m := ns.length) hlt (by omega)
      have ec := nx64 (i := c) (m := ns.length) (by omega) (by omega)
      have ed : ns.drop i = ns[i] :: ns.drop (i + 1) := List.drop_eq_getElem_cons hlt
      have hnn := hn _ (List.getElem_mem hlt)
      rw [ed, servedL_cons] at hv
      generalize ns[i] = n at *
      refine ix (h0 := (by omega)) (h1 := (by omega)) (k := ?_)
      refine lh ((hs.only0 rfl).block hb (by simp)) (by cases hpk; assumption) (k := ?_)
      repeat' (first|refine vs (k:=?_)|refine qRg ?_|refine Nx.h ?_|fail)
      have hin : ∀ x y, serveR u (lessN n u.left) = some (x, y) → x.In := fun x y h => serveR_in hu (lessN_in hnn hu.2.1) h
      (with_reducible apply xs_call); exact rfl; exact rfl; exact rserve_ret u (lessN n u.left) hu (lessN_in hnn hu.2.1) _
      generalize serveR u (lessN n u.left) = o at *
      rcases o with _ | ⟨u', b'⟩
      · simp only at hv
        rintro v w' ⟨rfl, ho⟩; replace hs := hs.call0 ho; repeat' (first|refine vs (k:=?_)|(refine stA hs (k:=?_);intro w hs)|(refine al hs (k:=?_);intro b w hz hs)|refine qRg ?_|refine Nx.h ?_|refine qCt ?_|fail)
        first | refine rt (hq := ?_) | refine rt' (hq := ?_)
        exact ⟨by rw [hv]; rfl, hs.only0 rfl⟩
      · simp only at hv
        have hu2 := hin _ _ rfl
        cases b'
        · rintro v w' ⟨rfl, ho⟩; replace hs := hs.call0 ho; repeat' (first|refine vs (k:=?_)|(refine stA hs (k:=?_);intro w hs)|(refine al hs (k:=?_);intro b w hz hs)|refine qRg ?_|refine Nx.h ?_|refine qCf ?_|fail)
          exact loopS_next (i + 1, u', c) (by show ns.length - (i + 1) < ns.length - i; omega) (by (repeat (first | exact agree_nil | (apply agree_cons; first | exact rfl | exact congrArg (Value.int .i64) ei)))) ⟨by show i + 1 ≤ _; omega, by show c ≤ i + 1; omega, hu2, by rw [hv]; rfl, hs.forgetNew⟩
        · rintro v w' ⟨rfl, ho⟩; replace hs := hs.call0 ho; repeat' (first|refine vs (k:=?_)|(refine stA hs (k:=?_);intro w hs)|(refine al hs (k:=?_);intro b w hz hs)|refine qRg ?_|refine Nx.h ?_|refine qCt ?_|refine qCf ?_|fail)
          exact loopS_next (i + 1, u', c + 1) (by show ns.length - (i + 1) < ns.length - i; omega) (by (repeat (first | exact agree_nil | (apply agree_cons; first | exact rfl | exact congrArg (Value.int .i64) ei | exact congrArg (Value.int .i64) ec)))) ⟨by show i + 1 ≤ _; omega, by show c + 1 ≤ i + 1; omega, hu2, by rw [hv]; rfl, hs.forgetNew⟩
    · have e : i = ns.length := by omega
      subst e
      rw [List.drop_length] at hv
      exact cutB_exit (u, c) (by (repeat (first | exact agree_nil | (apply agree_cons; exact rfl)))) ⟨hs, hv⟩
  · clear hs
    rintro ⟨u, c⟩ env w ⟨hs, hv⟩
    simp only at hs
    rw [hv]
    repeat' (first|refine vs (k:=?_)|(refine stA hs (k:=?_);intro w hs)|refine qRg ?_|refine Nx.h ?_|fail)
    first | refine rt (hq := ?_) | refine rt' (hq := ?_)
    exact ⟨rfl, hs.only0 rfl⟩
end Go.Proofs.YtilajmcellffiaaGreatDoorX

namespace Go.Proofs.YtilajmcellffiaaGreatDoorX
open Go Go.RowKit Go.Maps
def hld (v : Value) : Option (DataW Value × List MemPlace) := some (.held v, [])
def keyL (i : Int) : Lit := .int .i64 i
def MapAt (w : World) (b : Nat) (f : Int → Option Value) (c : Nat) : Prop :=
  ∃ D : DataW Value, w.ownsMap Tryz.prog 3 hld b c D ∧ Maps.size D = c ∧ ∀ i, In64 i → Maps.has D (keyL i) = (f i).isSome ∧ ∀ z, D.atKey (keyL i) (.held z) = .held ((f i).getD z)
theorem intK : Keyed Tryz.prog 3 := int_keyed (q := .i64) (by kernel_rfl)
theorem key_of {i : Int} (h : In64 i) : keyOf Tryz.prog 3 (.int .i64 i) = some (keyL i) := keyOf_int_mk (q := .i64) (by kernel_rfl) (by
  show (decide (IntKind.i64.min ≤ i) && decide (i ≤ IntKind.i64.max)) = true
  have e1 : IntKind.i64.min = -9223372036854775808 := rfl
  have e2 : IntKind.i64.max = 9223372036854775807 := rfl
  obtain ⟨h1, h2⟩ := h
  rw [e1, e2, decide_eq_true h1, decide_eq_true (show i ≤ 9223372036854775807 by omega)]; rfl)
theorem Only.of_grown {w w' : World} {b : Nat} (h : w.grownBy w' (some b)) : Only [b] w w' := by
  obtain ⟨h1, h2, h3, h4, h5⟩ := h
  exact ⟨h1, h2, h3, h4, fun k hk hn => h5 k hk (fun e => hn (by cases e; exact List.mem_singleton.2 rfl))⟩
theorem MapAt.keep {w w' : World} {b c : Nat} {f : Int → Option Value} {F : List Nat} (h : MapAt w b f c) (ho : Only F w w') (hb : b ∉ F) : MapAt w' b f c := by
  obtain ⟨D, ⟨es, clock, h1, h2⟩, h3⟩ := h
  exact ⟨D, ⟨es, clock, ho.block h1 hb, h2⟩, h3⟩
theorem MapAt.lt {w : World} {b c : Nat} {f : Int → Option Value} (h : MapAt w b f c) : b < w.heap.size := by
  obtain ⟨D, ⟨es, clock, h1, h2⟩, h3⟩ := h
  exact lt_of_block h1
theorem MapAt.ne {w : World} {b c : Nat} {f : Int → Option Value} (h : MapAt w b f c) {b' : Nat} {cs : Array Value} {t : Nat} {fz : Nat × Nat} (hb : w.heap[b']? = some (.cells cs t fz)) : b' ≠ b := fun e => by
  subst e
  obtain ⟨D, ⟨es, clock, h1, h2⟩, h3⟩ := h
  rw [h1] at hb; cases hb
theorem MapAt.made (w : World) : MapAt (w.alloc (.map #[] 0)) w.heap.size (fun _ => none) 0 :=
  ⟨.map [], World.ownsMap_made _ _ _ _, rfl, fun i hi => ⟨rfl, fun z => rfl⟩⟩
def updF (f : Int → Option Value) (i : Int) (v : Option Value) : Int → Option Value := fun j => bif decide (j = i) then v else f j
theorem key_ne {i j : Int} (h : j ≠ i) : keyL j ≠ keyL i := fun e => by
  unfold keyL at e
  injection e with _ e
  exact h e
theorem isKeyL (i : Int) (h : In64 i) : WideAt.IsKeyLit (keyL i) := (intK.key (key_of h))
section
variable {w : World} {b c : Nat} {f : Int → Option Value} {t e : Nat} {z v : Value} {i : Int}
theorem MapAt.look (h : MapAt w b f c) (ht : Tryz.prog.underlying t = some (.map 3 e)) (hz : (zeroValue e).run Tryz.prog w = .ok z w) (hi : In64 i) : (Instr.lookup t (.map (some b)) (.int .i64 i) true).run Tryz.prog w = .ok (.tuple #[(f i).getD z, .bool (f i).isSome]) w := by
  obtain ⟨D, h1, h2, h3⟩ := h
  obtain ⟨v, ps, hr, hv⟩ := h1.look_ok intK ht hz (zd := .held z) (zp := []) rfl (key_of hi)
  obtain ⟨h4, h5⟩ := h3 i hi
  have e1 : DataW.held v = D.atKey (keyL i) (.held z) := by
    unfold hld at hv; simp only [Option.some.injEq, Prod.mk.injEq] at hv; exact hv.1
  rw [h5 z] at e1
  injection e1 with e1
  rw [hr, show Maps.has D (keyL i) = (f i).isSome from h4, e1]
theorem MapAt.look1 (h : MapAt w b f c) (ht : Tryz.prog.underlying t = some (.map 3 e)) (hz : (zeroValue e).run Tryz.prog w = .ok z w) (hi : In64 i) : (Instr.lookup t (.map (some b)) (.int .i64 i) false).run Tryz.prog w = .ok ((f i).getD z) w := by
  obtain ⟨D, h1, h2, h3⟩ := h
  obtain ⟨v, ps, hr, hv⟩ := h1.lookup intK ht hz (zd := .held z) (zp := []) rfl (key_of hi)
  obtain ⟨h4, h5⟩ := h3 i hi
  have e1 : DataW.held v = D.atKey (keyL i) (.held z) := by
    unfold hld at hv; simp only [Option.some.injEq, Prod.mk.injEq] at hv; exact hv.1
  rw [h5 z] at e1
  injection e1 with e1
  rw [hr, e1]
theorem ownsMap_fit {D : DataW Value} {n : Nat} (h : w.ownsMap Tryz.prog 3 hld b n D) : w.ownsMap Tryz.prog 3 hld b (Maps.size D) D := by
  obtain ⟨es, clock, h1, h2, h3, h4⟩ := h
  refine ⟨es, clock, h1, h2, ?_, h4⟩
  rw [h4]
  simp [Maps.size, length_sorted]
theorem MapAt.store (h : MapAt w b f c) (ht : Tryz.prog.underlying t = some (.map 3 e)) (hi : In64 i) (hc : c < maxLen) : ∃ w', (Instr.mapUpdate t (.map (some b)) (.int .i64 i) v).run Tryz.prog w = .ok () w' ∧ MapAt w' b (updF f i (some v)) (if (f i).isSome then c else c + 1) ∧ Only [b] w w' := by
  obtain ⟨D, h1, h2, h3⟩ := h
  obtain ⟨w', hr, h4, h5⟩ := h1.store intK ht hc (d := .held v) (ps := []) (val := v) (key_of hi) rfl
  have hT := h1.tidy intK
  have hs : Maps.size (D.put (keyL i) (.held v)) = if (f i).isSome then c else c + 1 := by rw [size_put hT, (h3 i hi).1, h2]
  refine ⟨w', hr, ⟨_, by rw [← hs]; exact ownsMap_fit h4, hs, fun j hj => ?_⟩, Only.of_grown h5.grown⟩
  by_cases e1 : j = i
  · subst e1
    unfold updF
    rw [decide_eq_true rfl, cond_true]
    exact ⟨has_put_same h1.isMap (isKeyL j hj) _, fun z => atKey_put_same h1.isMap (isKeyL j hj) _ _⟩
  · unfold updF
    rw [decide_eq_false e1, cond_false, has_put_other (key_ne e1)]
    exact ⟨(h3 j hj).1, fun z => by rw [atKey_put_other (key_ne e1)]; exact (h3 j hj).2 z⟩
theorem MapAt.drop (h : MapAt w b f c) (ht : Tryz.prog.underlying t = some (.map 3 e)) (hi : In64 i) (ty : Nat) : ∃ w', (Builtin.delete_ #[t, 3] ty #[.map (some b), .int .i64 i]).run Tryz.prog w = .ok (.tuple #[]) w' ∧ MapAt w' b (updF f i none) (if (f i).isSome then c - 1 else c) ∧ Only [b] w w' := by
  obtain ⟨D, h1, h2, h3⟩ := h
  obtain ⟨w', hr, h4, h5⟩ := h1.drop intK ht (key_of hi) ty
  have hT := h1.tidy intK
  have hs : Maps.size (D.del (keyL i)) = if (f i).isSome then c - 1 else c := by
    have := size_del (k := keyL i) hT
    rw [(h3 i hi).1, h2] at this
    split at this <;> rename_i hx <;> simp only [hx, if_true, if_false, Bool.false_eq_true] <;> omega
  refine ⟨w', hr, ⟨_, by rw [← hs]; exact ownsMap_fit h4, hs, fun j hj => ?_⟩, Only.of_grown h5.grown⟩
  by_cases e1 : j = i
  · subst e1
    unfold updF
    rw [decide_eq_true rfl, cond_true]
    exact ⟨has_del_same, fun z => atKey_del_same _⟩
  · unfold updF
    rw [decide_eq_false e1, cond_false, has_del_other (key_ne e1)]
    exact ⟨(h3 j hj).1, fun z => by rw [atKey_del_other (key_ne e1)]; exact (h3 j hj).2 z⟩
end
end Go.Proofs.YtilajmcellffiaaGreatDoorX

namespace Go.Proofs.YtilajmcellffiaaGreatDoorX
open Go Go.RowKit
abbrev RT := {r : Rq // r.In}
def idR (r : RT) : Int := r.1.i.id
def OrdR (l : List RT) : Prop := (l.map idR).Pairwise (· < ·)
def findR (l : List RT) (i : Int) : Option RT := l.find? fun a => decide (idR a = i)
def putR (r : RT) : List RT → List RT
  | [] => [r]
  | a :: l => if idR r < idR a then r :: a :: l else if idR r = idR a then r :: l else a :: putR r l
def delR (i : Int) (l : List RT) : List RT := l.filter fun a => decide (idR a ≠ i)
def rvals (l : List RT) : Int → Option Value := fun i => (findR l i).map fun a => rv a.1
theorem findR_nil (i : Int) : findR [] i = none := rfl
theorem findR_cons (a : RT) (l : List RT) (i : Int) : findR (a :: l) i = if idR a = i then some a else findR l i := by
  unfold findR
  rw [List.find?_cons]
  by_cases h : idR a = i
  · rw [if_pos h, decide_eq_true h]
  · rw [if_neg h, decide_eq_false h]
theorem findR_put (r : RT) (i : Int) : ∀ l : List RT, findR (putR r l) i = if i = idR r then some r else findR l i
  | [] => by
    unfold putR
    rw [findR_cons, findR_nil]
    by_cases h : i = idR r
    · rw [if_pos h, if_pos h.symm]
    · rw [if_neg h, if_neg (fun e => h e.symm)]
  | a :: l => by
    unfold putR
    split
    · rw [findR_cons]
      by_cases h : i = idR r
      · rw [if_pos h, if_pos h.symm]
      · rw [if_neg h, if_neg (fun e => h e.symm)]
    · split
      · rename_i h1 h2
        rw [findR_cons, findR_cons]
        by_cases h : i = idR r
        · rw [if_pos h, if_pos h.symm]
        · rw [if_neg h, if_neg (fun e => h e.symm), if_neg (fun e => h (by omega))]
      · rename_i h1 h2
        rw [findR_cons, findR_cons, findR_put r i l]
        by_cases h : i = idR r
        · rw [if_pos h, if_pos h, if_neg (by omega)]
        · rw [if_neg h, if_neg h]
theorem findR_del (k i : Int) : ∀ l : List RT, findR (delR k l) i = if i = k then none else findR l i
  | [] => by unfold delR; rw [List.filter_nil, findR_nil]; split <;> rfl
  | a :: l => by
    have ih := findR_del k i l
    unfold delR at ih ⊢
    rw [List.filter_cons]
    by_cases h : idR a = k
    · rw [if_neg (by simp [h]), ih, findR_cons]
      by_cases hi : i = k
      · rw [if_pos hi, if_pos hi]
      · rw [if_neg hi, if_neg hi, if_neg (fun e => hi (by omega))]
    · rw [if_pos (by simp [h]), findR_cons, findR_cons, ih]
      by_cases hi : i = k
      · rw [if_pos hi, if_pos hi, if_neg (by omega)]
      · rw [if_neg hi, if_neg hi]
theorem OrdR.tail {a : RT} {l : List RT} (h : OrdR (a :: l)) : OrdR l := by
  unfold OrdR at *; rw [List.map_cons, List.pairwise_cons] at h; exact h.2
theorem OrdR.head {a : RT} {l : List RT} (h : OrdR (a :: l)) : ∀ b ∈ l, idR a < idR b := fun b hb => by
  unfold OrdR at *; rw [List.map_cons, List.pairwise_cons] at h; exact h.1 _ (List.mem_map_of_mem hb)
theorem OrdR.cons {a : RT} {l : List RT} (h : OrdR l) (hd : ∀ b ∈ l, idR a < idR b) : OrdR (a :: l) := by
  unfold OrdR at *; rw [List.map_cons, List.pairwise_cons]
  exact ⟨fun x hx => by obtain ⟨b, hb, rfl⟩ := List.mem_map.1 hx; exact hd b hb, h⟩
theorem findR_some {l : List RT} {i : Int} {a : RT} (h : findR l i = some a) : a ∈ l ∧ idR a = i := by
  unfold findR at h
  exact ⟨List.mem_of_find?_eq_some h, by simpa using List.find?_some h⟩
theorem findR_mem {l : List RT} {a : RT} (h : a ∈ l) : (findR l (idR a)).isSome = true := by
  unfold findR
  rw [List.find?_isSome]
  exact ⟨a, h, by simp⟩
theorem findR_less {l : List RT} {i : Int} (h : ∀ b ∈ l, i < idR b) : findR l i = none := by
  cases e : findR l i with
  | none => rfl
  | some a => obtain ⟨h1, h2⟩ := findR_some e; have := h a h1; omega
theorem mem_put {r b : RT} : ∀ {l : List RT}, b ∈ putR r l → b = r ∨ b ∈ l
  | [], h => by simpa [putR] using h
  | a :: l, h => by
    unfold putR at h
    split at h
    · simpa using h
    · split at h
      · rcases List.mem_cons.1 h with h | h
        · exact .inl h
        · exact .inr (List.mem_cons_of_mem _ h)
      · rcases List.mem_cons.1 h with h | h
        · exact .inr (h ▸ List.mem_cons_self)
        · rcases mem_put h with h | h
          · exact .inl h
          · exact .inr (List.mem_cons_of_mem _ h)
theorem ord_put {r : RT} : ∀ {l : List RT}, OrdR l → OrdR (putR r l)
  | [], h => by show OrdR [r]; exact OrdR.cons h (by simp)
  | a :: l, h => by
    unfold putR
    split
    · rename_i h1
      refine h.cons fun b hb => ?_
      rcases List.mem_cons.1 hb with rfl | hb
      · exact h1
      · have := h.head b hb; omega
    · split
      · rename_i h1 h2
        exact h.tail.cons fun b hb => by have := h.head b hb; omega
      · rename_i h1 h2
        refine (ord_put h.tail).cons fun b hb => ?_
        rcases mem_put hb with rfl | hb
        · omega
        · exact h.head b hb
theorem len_put {r : RT} : ∀ {l : List RT}, OrdR l → (putR r l).length = if (findR l (idR r)).isSome then l.length else l.length + 1
  | [], h => rfl
  | a :: l, h => by
    unfold putR
    split
    · rename_i h1
      rw [findR_less (fun b hb => by
        rcases List.mem_cons.1 hb with rfl | hb
        · exact h1
        · have := h.head b hb; omega)]
      rfl
    · split
      · rename_i h1 h2
        rw [findR_cons, if_pos h2.symm]; rfl
      · rename_i h1 h2
        have e1 : findR (a :: l) (idR r) = findR l (idR r) := by rw [findR_cons]; exact if_neg fun e => h2 e.symm
        rw [e1, List.length_cons, len_put h.tail]
        cases (findR l (idR r)).isSome <;> simp
theorem ord_del {i : Int} {l : List RT} (h : OrdR l) : OrdR (delR i l) := by
  unfold OrdR delR at *
  exact h.sublist (List.filter_sublist.map _)
theorem len_del {i : Int} : ∀ {l : List RT}, OrdR l → (delR i l).length = if (findR l i).isSome then l.length - 1 else l.length
  | [], h => rfl
  | a :: l, h => by
    have ih := len_del (i := i) h.tail
    unfold delR at ih ⊢
    rw [List.filter_cons, findR_cons]
    by_cases e : idR a = i
    · rw [if_neg (by simp [e]), if_pos e, ih, findR_less (fun b hb => by have := h.head b hb; omega)]
      rfl
    · rw [if_pos (by simp [e]), if_neg e, List.length_cons, ih]
      cases hf : findR l i with
      | none => rfl
      | some b =>
        have h1 := (findR_some hf).1
        cases l with
        | nil => cases h1
        | cons c l => simp
theorem rvals_put (r : RT) (l : List RT) : updF (rvals l) (idR r) (some (rv r.1)) = rvals (putR r l) := by
  funext i
  unfold updF rvals
  rw [findR_put]
  by_cases h : i = idR r
  · rw [if_pos h, decide_eq_true h]; rfl
  · rw [if_neg h, decide_eq_false h]; rfl
theorem rvals_del (k : Int) (l : List RT) : updF (rvals l) k none = rvals (delR k l) := by
  funext i
  unfold updF rvals
  rw [findR_del]
  by_cases h : i = k
  · rw [if_pos h, decide_eq_true h]; rfl
  · rw [if_neg h, decide_eq_false h]; rfl
theorem rvals_some (l : List RT) (i : Int) : (rvals l i).isSome = (findR l i).isSome := by unfold rvals; cases findR l i <;> rfl
def getL (l : List RT) (i : Int) : Rq := match findR l i with | some a => a.1 | none => .zero
theorem rvals_get (l : List RT) (i : Int) : (rvals l i).getD (rv .zero) = rv (getL l i) := by unfold rvals getL; cases findR l i <;> rfl
theorem ids_iff (l : List RT) (x : Int) : x ∈ l.map idR ↔ In64 x ∧ (rvals l x).isSome = true := by
  rw [rvals_some]
  constructor
  · intro h
    obtain ⟨a, ha, rfl⟩ := List.mem_map.1 h
    exact ⟨a.2.1.2.1, findR_mem ha⟩
  · rintro ⟨_, h⟩
    cases e : findR l x with
    | none => rw [e] at h; cases h
    | some a => obtain ⟨h1, h2⟩ := findR_some e; exact List.mem_map.2 ⟨a, h1, h2⟩
theorem rvals_nil : rvals [] = fun _ => none := rfl
theorem findR_at {l : List RT} (h : OrdR l) {a : RT} (ha : a ∈ l) : findR l (idR a) = some a := by
  induction l with
  | nil => cases ha
  | cons b l ih =>
    rw [findR_cons]
    rcases List.mem_cons.1 ha with rfl | ha
    · rw [if_pos rfl]
    · have := h.head a ha
      rw [if_neg (by omega)]
      exact ih h.tail ha
end Go.Proofs.YtilajmcellffiaaGreatDoorX

namespace Go.Proofs.YtilajmcellffiaaGreatDoorX
open Go Go.RowKit
attribute [local irreducible] XS XC XA thenE blockE retE loopE loopS cutB cutN doneE SE
def places (l : List It) : List Pt := l.map It.p
def bothPs (l : List It) : List Pt := l.flatMap fun a => [a.p, a.d]
def spr (base : Int) (l : List It) : Int := (maxL (sinces base (bothPs l)) - minL (sinces base (places l))) % 18446744073709551616
def flatP (ps : List Pt) : List Value := (ps.map Pt.cells).flatten
theorem flatP_app (a b : List Pt) : flatP (a ++ b) = flatP a ++ flatP b := by simp [flatP]
def Two (w0 w : World) (v1 v2 : Value) (a b : List Pt) : Prop := ∃ G1 G2, SlV w 27 3 v1 a.length (flatP a) G1 ∧ SlV w 27 3 v2 b.length (flatP b) G2 ∧ (∀ k ∈ G1, w0.heap.size ≤ k ∧ k ∉ G2) ∧ (∀ k ∈ G2, w0.heap.size ≤ k)
theorem flatP_len (a : List Pt) : ∀ x ∈ a.map Pt.cells, x.length = 3 := fun x hx => by obtain ⟨p, _, rfl⟩ := List.mem_map.1 hx; rfl
theorem both_len : ∀ l : List It, (bothPs l).length = 2 * l.length
  | [] => rfl
  | a :: l => by have := both_len l; simp only [bothPs, List.flatMap_cons, List.length_append, List.length_cons, List.length_nil] at *; omega
set_option maxHeartbeats 2000000 in
theorem spread_ret (base : Int) (l : List It) (sl : Value) (hm : l.length ≤ 1000000) (w0 : World) (hP : ItsAt w0 sl l) :
    Ret Tryz.prog 142 #[.int .u64 base, sl] w0 fun v w' => v = .int .u64 (spr base l) ∧ Only [] w0 w' := by
  obtain ⟨ad, cap, rfl, hD⟩ := hP
  rw [List.length_map] at *
  have hs := St.nil w0
  refine ret_of_xc Tryz.func142 (by kernel_rfl) rfl Tryz.ntmps142 rfl rfl rfl ?_
  repeat' (first|refine vs (k:=?_)|refine qRg ?_|refine Nx.h ?_|fail)
  refine xc_cutB (fun (s : Value × Value) => [(0, .int .u64 base), (5, s.1), (6, s.2)]) (fun s w => Only [] w0 w ∧ Two w0 w s.1 s.2 (places l) (bothPs l)) ?_ ?_
  · refine xc_loopS (fun (s : Nat × Value × Value) => [(0, .int .u64 base), (5, s.2.1), (6, s.2.2), (13, .slice ad l.length cap), (14, .int .i64 (l.length : Nat)), (15, .int .i64 (s.1 : Nat))])
      (fun s w => s.1 ≤ l.length ∧ Only [] w0 w ∧ Two w0 w s.2.1 s.2.2 (places (l.take s.1)) (bothPs (l.take s.1))) (fun s => l.length - s.1) (0, .slice none 0 0, .slice none 0 0) (by (repeat (first | exact agree_nil | (apply agree_cons; exact rfl)))) ⟨Nat.zero_le _, hs.only0 rfl, [], [], .inl ⟨rfl, rfl, rfl, rfl⟩, .inl ⟨rfl, rfl, rfl, rfl⟩, by simp, by simp⟩ fun s env wl ⟨hi, ho0, hT⟩ => ?_
    obtain ⟨i, v5, v6⟩ := s
    simp only at hi hT
    clear hs
    have hs := St.nil wl
    repeat' (first|refine vs (k:=?_)|refine qRg ?_|refine Nx.h ?_|(refine xc_if rfl (fun hc=>?_) (fun hc=>?_))|fail)
    · have hlt : i < l.length := by omega
      obtain ⟨b, off, cs, fz, rfl, _, hb, hcs⟩ := hD (fun h => by simp at h; subst h; cases hlt)
      have hpk := hcs i (It.cells l[i]) (by rw [List.getElem?_map, List.getElem?_eq_getElem hlt]; rfl)
      have ei := nx64 (m := l.length) hlt (by omega)
      have e1 : places (l.take (i + 1)) = places (l.take i) ++ [l[i].p] := by rw [take_next hlt]; unfold places; rw [List.map_append]; rfl
      have e2 : bothPs (l.take (i + 1)) = bothPs (l.take i) ++ [l[i].p, l[i].d] := by rw [take_next hlt]; unfold bothPs; rw [List.flatMap_append]; rfl
      have n1 : (places (l.take i)).length = i := by simp [places]; omega
      have n2 : (bothPs (l.take i)).length = 2 * i := by rw [both_len]; simp; omega
      generalize l[i] = q at *
      generalize places (l.take i) = A at *
      generalize bothPs (l.take i) = B at *
      refine ix (h0 := (by omega)) (h1 := (by omega)) (k := ?_)
      refine lhK (ho0.block hb (by simp)) hpk (k := ?_)
      refine al hs (k := ?_); intro b8 w8 hz hs
      repeat' (first|(refine stA hs (k:=?_);intro w hs)|refine Nx.h ?_|fail)
      obtain ⟨G1, G2, h1, h2, hd, hn⟩ := hT
      have hl1 := h1.lt
      have hl2 := h2.lt
      refine dr [] hs (k := ?_); intro hX w hs
      refine tk 0 hX (k := ?_)
      refine tk 1 hX (k := ?_)
      refine tk 2 hX (k := ?_)
      refine tk 5 hX (k := ?_)
      refine tk 6 hX (k := ?_)
      refine tk 7 hX (k := ?_)
      refine tk 8 hX (k := ?_)
      refine tk 9 hX (k := ?_)
      refine pd0S 10 29 (q.p.cells ++ q.d.cells) hs (k := ?_); intro f X w hp; have hs := hp.st
      apply xa_pend 3 10 (f := f) (X := X) hX hp; exact rfl; exact rfl; (first | (apply makes_alloc tabOk; exact rfl) | (apply makes_slice tabOk; exact rfl; exact rfl; exact rfl; exact rfl; exact rfl; (intro X; ((repeat (first | exact Bld.nil | (apply Bld.one; exact rfl; (conv => lhs; whnf); exact rfl; (repeat (first | exact PutL.nil | apply PutL.skip | apply PutL.cons))) | (apply Bld.agg; exact rfl; exact rfl; exact rfl; (repeat (first | exact PutL.nil | apply PutL.skip | apply PutL.cons))))))))); kernel_rfl; kernel_rfl; kernel_rfl; kernel_rfl; (intro X Y; (repeat (first | exact pgg_base | refine pgg_step ?_ (by exact rfl)))); (intro w' hs; ((first | exact se_hold hs.hold | exact se_hold (hold_sim hs.hold rfl) | exact se_hold (hold_sim hs.hold.tail rfl) | exact se_hold (hR hs rfl) | exact se_hold hs.hold.tail | exact se_hold hs.hold.tail.tail | exact se_hold hs.hold.tail.tail.tail | exact se_done rfl))); intro f X w hp; have hs := hp.st
      refine bsP hp (k := ?_); intro b3 w3 _ hp; replace hs := hp.st
      repeat' (first|refine Nx.h ?_|fail)
      refine dn (k := ?_)
      apply xa_pend 4 10 (f := f) (X := X) hX hp; exact rfl; exact rfl; (first | (apply makes_alloc tabOk; exact rfl) | (apply makes_slice tabOk; exact rfl; exact rfl; exact rfl; exact rfl; exact rfl; (intro X; ((repeat (first | exact Bld.nil | (apply Bld.one; exact rfl; (conv => lhs; whnf); exact rfl; (repeat (first | exact PutL.nil | apply PutL.skip | apply PutL.cons))) | (apply Bld.agg; exact rfl; exact rfl; exact rfl; (repeat (first | exact PutL.nil | apply PutL.skip | apply PutL.cons))))))))); kernel_rfl; kernel_rfl; kernel_rfl; kernel_rfl; (intro X Y; (repeat (first | exact pgg_base | refine pgg_step ?_ (by exact rfl)))); (intro w' hs; ((first | exact se_hold hs.hold | exact se_hold (hold_sim hs.hold rfl) | exact se_hold (hold_sim hs.hold.tail rfl) | exact se_hold (hR hs rfl) | exact se_hold hs.hold.tail | exact se_hold hs.hold.tail.tail | exact se_hold hs.hold.tail.tail.tail | exact se_done rfl))); intro f X w hp; have hs := hp.st
      have hb3 := hs.get At.head
      have k1 := h1.keep hs.only (by simp [olds, D0])
      refine xs_appendW tabOk rfl rfl rfl rfl rfl rfl rfl (by decide) (lit_cells (news := q.p.cells) hb3) (by simp [Value.oneCell']) k1 (by omega) (by omega) ?_
      intro v5' w4 ⟨G1', h3, hG1'⟩ ho4
      have hz3 := hs.size
      have hp := hp.callN ho4 hl1 rfl rfl (J := fun w => SlV w 27 3 v5' (A.length + 1) (flatP A ++ q.p.cells) G1') h3 (fun _ _ ho h => h.keep ho (by simp))
      replace hs := hp.st
      repeat' (first|refine Nx.h ?_|fail)
      refine dn (k := ?_)
      apply xa_pendE 10 (f := f) (X := X) hX hp; exact rfl; (first | (apply makes_alloc tabOk; exact rfl) | (apply makes_slice tabOk; exact rfl; exact rfl; exact rfl; exact rfl; exact rfl; (intro X; ((repeat (first | exact Bld.nil | (apply Bld.one; exact rfl; (conv => lhs; whnf); exact rfl; (repeat (first | exact PutL.nil | apply PutL.skip | apply PutL.cons))) | (apply Bld.agg; exact rfl; exact rfl; exact rfl; (repeat (first | exact PutL.nil | apply PutL.skip | apply PutL.cons))))))))); kernel_rfl; kernel_rfl; (intro X Y; (repeat (first | exact pgg_base | refine pgg_step ?_ (by exact rfl)))); (intro w' hs; ((first | exact se_hold hs.hold | exact se_hold (hold_sim hs.hold rfl) | exact se_hold (hold_sim hs.hold.tail rfl) | exact se_hold (hR hs rfl) | exact se_hold hs.hold.tail | exact se_hold hs.hold.tail.tail | exact se_hold hs.hold.tail.tail.tail | exact se_done rfl))); intro b w hI hs
      refine dt 11 hX (k := ?_)
      have hb10 := hs.get At.head
      have k2 := h2.keep hs.only (fun k hk hm => by simp [olds, D0] at hm; exact (hd k hm).2 hk)
      refine xs_appendW tabOk rfl rfl rfl rfl rfl rfl rfl (by decide) (lit_cells (news := q.p.cells ++ q.d.cells) hb10) (by simp [Value.oneCell']) k2 (by omega) (by omega) ?_
      intro v6' w6 ⟨G2', h4, hG2'⟩ ho6
      have hz5 := hs.size
      have h5 := hI.keep ho6 (fun k hk hm => by
        rcases hG1' k hk with h | h
        · exact (hd k h).2 hm
        · have := hl2 k hm; omega)
      have hlt5 := hI.lt
      replace hs := hs.callN ho6 hl2 rfl rfl
      repeat' (first|refine Nx.h ?_|fail)
      refine dn (k := ?_)
      refine tk 12 hX (k := ?_)
      refine tk 13 hX (k := ?_)
      refine en (k := ?_)
      repeat' (first|refine vs (k:=?_)|refine qRg ?_|refine Nx.h ?_|fail)
      have hz6 := hs.size
      have hz0 := ho0.size
      refine loopS_next (i + 1, v5', v6') (by show l.length - (i + 1) < l.length - i; omega) (by (repeat (first | exact agree_nil | (apply agree_cons; first | exact rfl | exact congrArg (Value.int .i64) ei)))) ⟨by show i + 1 ≤ l.length; omega, ho0.step (hs.forgetNew.forgetNew.forgetNew.only) ?_, G1', G2', ?_, ?_, ?_, ?_⟩
      · intro k hk
        simp [olds, D0] at hk
        rcases hk with hk | hk
        · exact .inr (hn k hk)
        · exact .inr (hd k hk).1
      · simp only [e1]; rw [flatP_app, List.length_append]; exact h5
      · simp only [e2]; rw [flatP_app, List.length_append]; exact h4
      · intro k hk
        have h7 := hlt5 k hk
        refine ⟨?_, fun hm => ?_⟩
        · rcases hG1' k hk with h | h
          · exact (hd k h).1
          · omega
        · rcases hG2' k hm with h | h
          · rcases hG1' k hk with h' | h'
            · exact (hd k h').2 h
            · have := hl2 k h; omega
          · omega
      · intro k hk
        rcases hG2' k hk with h | h
        · exact hn k h
        · omega
    · have hc' : ¬ ((i : Int) < l.length) := hc
      have e : i = l.length := by omega
      subst e
      rw [List.take_length] at hT
      exact cutB_exit (v5, v6) (by (repeat (first | exact agree_nil | (apply agree_cons; exact rfl)))) ⟨ho0, hT⟩
  · rintro ⟨v5, v6⟩ env w ⟨ho0, G1, G2, h1, h2, hd, hn⟩
    simp only at h1 h2
    clear hs
    have hs := St.nil w
    have nP : (places l).length ≤ 1000000 := by simp [places]; exact hm
    have nB : (bothPs l).length ≤ 2000000 := by rw [both_len]; omega
    have l1 := h1.ls rfl (by simp) (flatP_len _)
    have l2 := h2.ls rfl (by simp) (flatP_len _)
    have m1 := minL_in (l := sinces base (places l)) (fun d hd => by obtain ⟨p, _, rfl⟩ := List.mem_map.1 hd; exact sn_in _ _)
    have m2 := maxL_in (l := sinces base (bothPs l)) (fun d hd => by obtain ⟨p, _, rfl⟩ := List.mem_map.1 hd; exact sn_in _ _)
    repeat' (first|refine vs (k:=?_)|refine qRg ?_|refine Nx.h ?_|fail)
    (with_reducible apply xs_call); exact rfl; exact rfl; exact floors_ret base (places l) v5 (by omega) _ l1
    rintro v w' ⟨rfl, ho⟩; replace hs := hs.call0 ho; repeat' (first|refine vs (k:=?_)|refine qRg ?_|refine Nx.h ?_|fail)
    (with_reducible apply xs_call); exact rfl; exact rfl; exact floors_ret base (bothPs l) v6 (by omega) _ (l2.only (hs.only0 rfl))
    rintro v w' ⟨rfl, ho⟩; replace hs := hs.call0 ho; repeat' (first|refine vs (k:=?_)|refine qRg ?_|refine Nx.h ?_|fail)
    first | refine rt (hq := ?_) | refine rt' (hq := ?_)
    refine ⟨?_, ho0.trans (hs.only0 rfl)⟩
    refine int_cong ?_
    unfold spr
    obtain ⟨a1, a2⟩ := m1
    obtain ⟨a3, a4⟩ := m2
    simp only [wrap_u64]
    omega
end Go.Proofs.YtilajmcellffiaaGreatDoorX

namespace Go.Proofs.YtilajmcellffiaaGreatDoorX
def valD : List Int → Int
  | [] => 0
  | d :: ds => d + 10000 * valD ds
def DOk (ds : List Int) : Prop := ∀ d ∈ ds, 0 ≤ d ∧ d < 10000
def Trim (ds : List Int) : Prop := ∀ d, ds.getLast? = some d → d ≠ 0
theorem valD_append : ∀ (xs ys : List Int), valD (xs ++ ys) = valD xs + 10000 ^ xs.length * valD ys
  | [], ys => by simp [valD]
  | x :: xs, ys => by
    simp only [List.cons_append, valD, valD_append xs ys, List.length_cons]
    rw [Int.pow_succ]
    grind
theorem valD_snoc (xs : List Int) (d : Int) : valD (xs ++ [d]) = valD xs + 10000 ^ xs.length * d := by rw [valD_append]; simp [valD]
theorem valD_nonneg : ∀ {ds : List Int}, DOk ds → 0 ≤ valD ds
  | [], _ => Int.le_refl _
  | d :: ds, h => by
    have := h d (by simp)
    have := valD_nonneg (ds := ds) fun x hx => h x (List.mem_cons_of_mem _ hx)
    simp only [valD]; omega
theorem valD_lt : ∀ {ds : List Int}, DOk ds → valD ds < 10000 ^ ds.length
  | [], _ => by simp [valD]
  | d :: ds, h => by
    have := h d (by simp)
    have := valD_lt (ds := ds) fun x hx => h x (List.mem_cons_of_mem _ hx)
    simp only [valD, List.length_cons, Int.pow_succ]; omega
theorem DOk.nil : DOk [] := by intro d h; cases h
theorem DOk.snoc {ds : List Int} {d : Int} (h : DOk ds) (h0 : 0 ≤ d) (h1 : d < 10000) : DOk (ds ++ [d]) := fun x hx => by
  rcases List.mem_append.1 hx with hx | hx
  · exact h x hx
  · simp at hx; subst hx; exact ⟨h0, h1⟩
theorem pow_pos' (n : Nat) : (0 : Int) < 10000 ^ n := Int.pow_pos (by decide)
theorem pow_mono' {n m : Nat} (h : n ≤ m) : (10000 : Int) ^ n ≤ 10000 ^ m := by
  have := Nat.pow_le_pow_right (show 0 < 10000 by decide) h
  have e : ∀ k : Nat, ((10000 ^ k : Nat) : Int) = (10000 : Int) ^ k := fun k => by simp
  rw [← e n, ← e m]
  omega
theorem valD_ge {ds : List Int} (h : DOk ds) (ht : Trim ds) (hn : ds ≠ []) : 10000 ^ (ds.length - 1) ≤ valD ds := by
  obtain ⟨init, last, rfl⟩ : ∃ i l, ds = i ++ [l] := ⟨ds.dropLast, ds.getLast hn, (List.dropLast_concat_getLast hn).symm⟩
  have h1 := h last (by simp)
  have h2 : last ≠ 0 := ht last (by simp)
  have h3 := valD_nonneg (ds := init) fun x hx => h x (by simp [hx])
  rw [valD_snoc]
  have h4 := pow_pos' init.length
  have : (10000 : Int) ^ init.length * 1 ≤ 10000 ^ init.length * last := Int.mul_le_mul_of_nonneg_left (by omega) (by omega)
  simp only [List.length_append, List.length_singleton, Nat.add_sub_cancel]
  omega
theorem valD_zero {ds : List Int} (h : DOk ds) (ht : Trim ds) : valD ds = 0 ↔ ds = [] := by
  refine ⟨fun hv => ?_, fun e => by subst e; rfl⟩
  by_cases hn : ds = []
  · exact hn
  · have := valD_ge h ht hn
    have := pow_pos' (ds.length - 1)
    omega
theorem len_le {ds : List Int} (h : DOk ds) (ht : Trim ds) {n : Nat} (hv : valD ds < 10000 ^ n) : ds.length ≤ n := by
  by_cases hn : ds = []
  · subst hn; simp
  · have h1 := valD_ge h ht hn
    rcases Nat.lt_or_ge n ds.length with hl | hl
    · have h2 : (10000 : Int) ^ n ≤ 10000 ^ (ds.length - 1) := pow_mono' (by omega)
      omega
    · exact hl
def dig (ds : List Int) (i : Nat) : Int := ds.getD i 0
theorem dig_rng {ds : List Int} (h : DOk ds) (i : Nat) : 0 ≤ dig ds i ∧ dig ds i < 10000 := by
  unfold dig
  rw [List.getD_eq_getElem?_getD]
  cases he : ds[i]? with
  | none => simp
  | some d => exact h d (List.mem_of_getElem? he)
theorem dig_ge {ds : List Int} {i : Nat} (h : ds.length ≤ i) : dig ds i = 0 := by
  unfold dig; rw [List.getD_eq_getElem?_getD, List.getElem?_eq_none h]; rfl
theorem valD_drop (ds : List Int) (i : Nat) : valD (ds.drop i) = dig ds i + 10000 * valD (ds.drop (i + 1)) := by
  rcases Nat.lt_or_ge i ds.length with h | h
  · rw [List.drop_eq_getElem_cons h]
    simp [valD, dig, h]
  · rw [List.drop_of_length_le h, List.drop_of_length_le (by omega), dig_ge h]; simp [valD]
theorem valD_take (ds : List Int) (i : Nat) : valD (ds.take (i + 1)) = valD (ds.take i) + 10000 ^ i * dig ds i := by
  rcases Nat.lt_or_ge i ds.length with h | h
  · have : ds.take (i + 1) = ds.take i ++ [ds[i]] := by simp
    rw [this, valD_snoc]
    simp [dig, h, Nat.min_eq_left (Nat.le_of_lt h)]
  · rw [List.take_of_length_le h, List.take_of_length_le (by omega), dig_ge h]; simp
end Go.Proofs.YtilajmcellffiaaGreatDoorX

namespace Go.Proofs.YtilajmcellffiaaGreatDoorX
open Go Go.RowKit
attribute [local irreducible] XS XC XA thenE blockE retE loopE loopS cutB cutN doneE SE
def DAt (w : World) (sl : Value) (ds : List Int) : Prop :=
  ∃ ad cap, sl = .slice ad ds.length cap ∧ (ds ≠ [] → ∃ (b off : Nat) (cs : List Value) (fz : Nat × Nat), ad = some ⟨b, off, none⟩ ∧ ds.length ≤ cap ∧ w.heap[b]? = some (.cells cs.toArray 3 fz) ∧ ∀ i d, ds[i]? = some d → cs[off + i]? = some (.int .i64 d))
def sg (neg : Bool) (n : Int) : Int := bif neg then -n else n
def BigAt (w : World) (v : Value) (x : Int) : Prop := ∃ neg sl ds, v = .agg #[.bool neg, sl] ∧ DAt w sl ds ∧ DOk ds ∧ Trim ds ∧ (ds = [] → neg = false) ∧ x = sg neg (valD ds)
theorem DAt.only {w w' : World} {sl : Value} {ds : List Int} (h : DAt w sl ds) (ho : Only [] w w') : DAt w' sl ds := by
  obtain ⟨ad, cap, rfl, h⟩ := h
  refine ⟨ad, cap, rfl, fun hn => ?_⟩
  obtain ⟨b, off, cs, fz, h1, h2, h3, h4⟩ := h hn
  exact ⟨b, off, cs, fz, h1, h2, ho.block h3 (by simp), h4⟩
theorem BigAt.only {w w' : World} {v : Value} {x : Int} (h : BigAt w v x) (ho : Only [] w w') : BigAt w' v x := by
  obtain ⟨neg, sl, ds, h1, h2, h3⟩ := h
  exact ⟨neg, sl, ds, h1, h2.only ho, h3⟩
theorem i64_small {n : Int} (h0 : -9223372036854775808 ≤ n) (h1 : n < 9223372036854775808) : IntKind.i64.wrap n = n := by rw [wrap_i64]; omega
theorem dig_get {ds : List Int} {i : Nat} (h : i < ds.length) : ds[i]? = some (dig ds i) := by simp [dig, h]
theorem digit_ret (neg : Bool) (sl : Value) (ds : List Int) (w0 : World) (hD : DAt w0 sl ds) (i : Nat) : Ret Tryz.prog 169 #[.agg #[.bool neg, sl], .int .i64 (i : Nat)] w0 fun v w' => v = .int .i64 (dig ds i) ∧ Only [] w0 w' := by
  obtain ⟨ad, cap, rfl, h⟩ := hD
  have hs := St.nil w0
  refine ret_of_xc Tryz.func169 (by kernel_rfl) rfl Tryz.ntmps169 rfl rfl rfl ?_
  repeat' (first|refine vs (k:=?_)|(refine bx hs (k:=?_);intro b w hz hs)|refine qRg ?_|refine Nx.h ?_|(refine xc_if rfl (fun hc=>?_) (fun hc=>?_))|fail)
  · have hi : i < ds.length := by omega
    obtain ⟨b', off, cs, fz, rfl, h1, h2, h3⟩ := h (by intro e; subst e; simp at hi)
    refine ix (h0 := (by omega)) (h1 := hc) (k := ?_)
    refine lh (cs := cs) (off := off + ((i : Nat) : Int).toNat * 1) ((hs.only0 rfl).block h2 (by simp)) (v := .int .i64 (dig ds i)) (by simpa using h3 i _ (dig_get hi)) (k := ?_)
    repeat' (first|refine vs (k:=?_)|refine Nx.h ?_|fail)
    first | refine rt (hq := ?_) | refine rt' (hq := ?_)
    exact ⟨rfl, hs.only0 rfl⟩
  · first | refine rt (hq := ?_) | refine rt' (hq := ?_)
    refine ⟨?_, hs.only0 rfl⟩
    rw [dig_ge (by omega)]; rfl
theorem take_dig {ds : List Int} {k : Nat} (h : dig ds k = 0) : valD (ds.take (k + 1)) = valD (ds.take k) := by rw [valD_take, h]; simp
theorem trim_ret (neg : Bool) (sl : Value) (ds : List Int) (w0 : World) (hD : DAt w0 sl ds) (hok : DOk ds) (hlen : ds.length < 4611686018427387904) : Ret Tryz.prog 165 #[.agg #[.bool neg, sl]] w0 fun v w' => BigAt w' v (sg neg (valD ds)) ∧ Only [] w0 w' := by
  obtain ⟨ad, cap, rfl, h⟩ := hD
  have hs := St.nil w0
  refine ret_of_xc Tryz.func165 (by kernel_rfl) rfl Tryz.ntmps165 rfl rfl rfl ?_
  refine xc_seq ?_
  refine xc_region ?_ ?_; exact rfl
  refine bx hs (k := ?_); intro b1 w hz hs
  refine al hs (k := ?_); intro b2 w hz hs
  repeat' (first|refine Nx.h ?_|fail)
  refine xc_cutB (fun (m : Nat) => [(1, .pointer (some ⟨b1, 0, none⟩)), (2, .pointer (some ⟨b2, 0, none⟩))])
    (fun m w => m ≤ ds.length ∧ valD (ds.take m) = valD ds ∧ (m ≠ 0 → dig ds (m - 1) ≠ 0) ∧ St w0 D0 [(b2, .cells #[.bool false, .slice none 0 0] 79, true), (b1, .cells #[.bool neg, .slice ad m cap] 79, true)] w) ?_ ?_
  · refine xc_loopS (fun (m : Nat) => [(1, .pointer (some ⟨b1, 0, none⟩)), (2, .pointer (some ⟨b2, 0, none⟩))])
      (fun m w => m ≤ ds.length ∧ valD (ds.take m) = valD ds ∧ St w0 D0 [(b2, .cells #[.bool false, .slice none 0 0] 79, true), (b1, .cells #[.bool neg, .slice ad m cap] 79, true)] w)
      (fun m => m) ds.length (by (repeat (first | exact agree_nil | (apply agree_cons; exact rfl)))) ⟨Nat.le_refl _, by rw [List.take_length], hs⟩ fun m env w ⟨hm, hv, hs⟩ => ?_
    refine xc_seq ?_
    refine xc_seq ?_
    refine xc_region ?_ ?_; exact rfl
    refine vs (k := ?_)
    refine vs (k := ?_)
    refine vs (k := ?_)
    refine vs (k := ?_)
    refine vs (k := ?_)
    refine xs_late 7 rfl ?_; intro c hc; cases c
    · repeat' (first|refine vs (k:=?_)|refine ps (k:=?_)|refine Nx.h ?_|refine qCf ?_|fail)
      have hm0 : m = 0 := by have := of_decide_eq_false hc; omega
      exact cutB_exit m (by (repeat (first | exact agree_nil | (apply agree_cons; exact rfl)))) ⟨hm, hv, fun h => absurd hm0 h, hs⟩
    · have hm0 : 0 < m := by have := of_decide_eq_true hc; omega
      have e1 : IntKind.i64.wrap ((m : Int) - 1) = ((m - 1 : Nat) : Int) := by
        have : (m : Int) - 1 = ((m - 1 : Nat) : Int) := by omega
        rw [this]
        exact i64_small (by omega) (by omega)
      obtain ⟨b', off, cs, fz, rfl, h1, h2, h3⟩ := h (by intro e; subst e; simp at hm; omega)
      refine vs (k := ?_)
      refine vs (k := ?_)
      refine vs (k := ?_)
      refine vs (k := ?_)
      refine vs (k := ?_)
      refine vs (k := ?_)
      rw [e1]
      refine ix (h0 := (by omega)) (h1 := (by omega)) (k := ?_)
      refine lh (cs := cs) (off := off + ((m - 1 : Nat) : Int).toNat * 1) ((hs.only0 rfl).block h2 (by simp)) (v := .int .i64 (dig ds (m - 1))) (by simpa using h3 (m - 1) _ (dig_get (by omega))) (k := ?_)
      refine vs (k := ?_)
      refine vs (k := ?_)
      repeat' (first|refine vs (k:=?_)|refine qRg ?_|refine Nx.h ?_|(refine xc_if rfl (fun hc=>?_) (fun hc=>?_))|fail)
      · rw [e1]
        refine sl (l := 0) (h := m - 1) (hlo := rfl) (hhi := ⟨_, rfl⟩) (h1 := by omega) (h2 := by omega) (h3 := by omega) (k := ?_)
        repeat' (first|refine vs (k:=?_)|(refine st hs (k:=?_);intro w hs)|refine Nx.h ?_|fail)
        have hd0 : dig ds (m - 1) = 0 := by simpa using hc
        have hx : valD (ds.take (m - 1)) = valD ds := by rw [← take_dig hd0, show m - 1 + 1 = m by omega]; exact hv
        exact loopS_next (m - 1) (by omega) (by (repeat (first | exact agree_nil | (apply agree_cons; exact rfl)))) ⟨by omega, hx, hs⟩
      · have hd0 : dig ds (m - 1) ≠ 0 := by simpa using hc
        exact cutB_exit m (by (repeat (first | exact agree_nil | (apply agree_cons; exact rfl)))) ⟨hm, hv, fun _ => hd0, hs⟩
  · rintro m env w ⟨hm, hv, hd, hs⟩
    have ht : Trim (ds.take m) := fun d hl => by
      rw [List.getLast?_eq_getElem?, List.length_take, Nat.min_eq_left hm] at hl
      rcases Nat.eq_zero_or_pos m with h0 | h0
      · subst h0; simp at hl
      · rw [List.getElem?_take, if_pos (by omega), dig_get (by omega)] at hl
        cases hl
        exact hd (by omega)
    have hok' : DOk (ds.take m) := fun d hm => hok d (List.mem_of_mem_take hm)
    repeat' (first|refine vs (k:=?_)|(refine stA hs (k:=?_);intro w hs)|refine qRg ?_|refine Nx.h ?_|(refine xc_if rfl (fun hc=>?_) (fun hc=>?_))|fail)
    · first | refine rt (hq := ?_) | refine rt' (hq := ?_)
      have hm0 : m = 0 := by have : ((m : Nat) : Int) = 0 := by simpa using hc
                             omega
      subst hm0
      refine ⟨⟨false, .slice none 0 0, [], rfl, ⟨none, 0, rfl, fun h => absurd rfl h⟩, DOk.nil, (fun d h => by cases h), fun _ => rfl, ?_⟩, hs.only0 rfl⟩
      rw [← hv]; cases neg <;> simp [sg, valD]
    · first | refine rt (hq := ?_) | refine rt' (hq := ?_)
      have hm0 : m ≠ 0 := by have : ¬ ((m : Nat) : Int) = 0 := by simpa using hc
                             omega
      have hl : (ds.take m).length = m := by simp [Nat.min_eq_left hm]
      obtain ⟨b', off, cs, fz, rfl, h1, h2, h3⟩ := h (by intro e; subst e; simp at hm; omega)
      refine ⟨⟨neg, .slice (some ⟨b', off, none⟩) m cap, ds.take m, rfl, ⟨some ⟨b', off, none⟩, cap, by rw [hl], fun _ => ⟨b', off, cs, fz, rfl, by omega, (hs.only0 rfl).block h2 (by simp), fun i d hi => ?_⟩⟩, hok', ht, fun e => ?_, by rw [hv]⟩, hs.only0 rfl⟩
      · rw [List.getElem?_take] at hi
        split at hi
        · exact h3 i d hi
        · cases hi
      · rw [e] at hl; simp at hl; omega
end Go.Proofs.YtilajmcellffiaaGreatDoorX
