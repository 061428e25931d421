/- Proved: law19.LimitsAsk returns true for every configuration, int, uint64 and wide number, and its arguments read as before; no conditions -/
import Derived.Test.YtilajmcellffiaaGreatDoorLimitsAsk2
import Derived.Test.YtilajmcellffiaaGreatDoorRows
import Derived.JoinedOf
import Derived.Test.YtilajmcellffiaaGreatDoorTie
import Derived.Lib.LaidTab
import Derived.Stop.LaidErr
import Derived.MakeChecks
import Derived.LaidMore
import Derived.LaidLaws
import Derived.Test.YtilajmcellffiaaGreatDoorCards
import Derived.SevenTiedAt
set_option linter.unusedVariables false
set_option linter.unusedSimpArgs false
set_option maxRecDepth 100000
namespace Go.Proofs.YtilajmcellffiaaGreatDoorX
open Go Go.RowKit
attribute [local irreducible] XS XC XA thenE blockE retE loopE loopS cutB cutN doneE SE
def clampW (x u : Int) : Int := if x > max u 0 then max u 0 else if x < -(max u 0) then -(max u 0) else x
theorem clampW_in {x u : Int} (hw : In64 u) : In64 (clampW x u) := by
  unfold clampW In64 at *
  split
  · omega
  · split <;> omega
set_option maxHeartbeats 4000000 in
theorem clamp_ret (x u : Int) (hx : InW x) (hw : In64 u) (w0 : World) : Ret Tryz.prog 85 #[wv x, .int .i64 u] w0 fun v w' => v = .int .i64 (clampW x u) ∧ Only [] w0 w' := by
  have hs := St.nil w0
  refine ret_of_xc Tryz.func85 (by kernel_rfl) rfl Tryz.ntmps85 rfl rfl rfl ?_
  repeat' (first|refine vs (k:=?_)|(refine bx hs (k:=?_);intro b w hz hs)|refine qRg ?_|refine Nx.h ?_|fail)
  have eC : clampW x u = if x > max u 0 then max u 0 else if x < -(max u 0) then -(max u 0) else x := rfl
  have hm : 0 ≤ max u 0 ∧ max u 0 < 9223372036854775808 := by unfold In64 at hw; omega
  rw [show (if 0 > u then 0 else u) = max u 0 by split <;> omega]
  generalize max u 0 = m at *
  have m1 : InW m := by unfold InW; omega
  have m2 : InW (-m) := by unfold InW; omega
  have c1 : cmpI x m > 0 ↔ m < x := cmp_pos
  have c2 : cmpI x (-m) < 0 ↔ x < -m := cmp_neg
  refine dr [] hs (k := ?_); intro hX w hs
  refine tk 0 hX (k := ?_)
  refine tk 1 hX (k := ?_)
  refine dt 2 hX (k := ?_)
  (with_reducible apply xs_call); exact rfl; exact rfl; exact of_ret m (by omega) (by omega) _
  rintro v w' ⟨rfl, ho⟩; replace hs := hs.call0 ho; repeat' (first|refine Nx.h ?_|fail)
  refine dn (k := ?_)
  refine dt 3 hX (k := ?_)
  (with_reducible apply xs_call); exact rfl; exact rfl; exact cmp_ret x m hx m1 _
  rintro v w' ⟨rfl, ho⟩; replace hs := hs.call0 ho; repeat' (first|refine Nx.h ?_|fail)
  refine dn (k := ?_)
  refine tk 4 hX (k := ?_)
  refine tk 5 hX (k := ?_)
  refine en (k := ?_)
  by_cases h : m < x
  · rw [if_pos h] at eC
    rw [decide_eq_true (c1.2 h), eC]
    repeat' (first|refine vs (k:=?_)|refine qRg ?_|refine Nx.h ?_|refine qCt ?_|fail)
    first | refine rt (hq := ?_) | refine rt' (hq := ?_)
    exact ⟨rfl, hs.only0 rfl⟩
  rw [if_neg h] at eC
  rw [decide_eq_false (fun k => h (c1.1 k))]
  repeat' (first|refine Nx.h ?_|refine qCf ?_|fail)
  have em : IntKind.i64.wrap (0 - m) = -m := by rw [wrap_i64]; omega
  refine dr [] hs (k := ?_); intro hX w hs
  refine tk 0 hX (k := ?_)
  refine tk 1 hX (k := ?_)
  refine tk 2 hX (k := ?_)
  refine dt 3 hX (k := ?_)
  (with_reducible apply xs_call); exact rfl; exact rfl; exact of_ret (IntKind.i64.wrap (0 - m)) (by rw [em]; omega) (by rw [em]; omega) _
  rw [em]
  rintro v w' ⟨rfl, ho⟩; replace hs := hs.call0 ho; repeat' (first|refine Nx.h ?_|fail)
  refine dn (k := ?_)
  refine dt 4 hX (k := ?_)
  (with_reducible apply xs_call); exact rfl; exact rfl; exact cmp_ret x (-m) hx m2 _
  rintro v w' ⟨rfl, ho⟩; replace hs := hs.call0 ho; repeat' (first|refine Nx.h ?_|fail)
  refine dn (k := ?_)
  refine tk 5 hX (k := ?_)
  refine tk 6 hX (k := ?_)
  refine en (k := ?_)
  by_cases h2 : x < -m
  · rw [if_pos h2] at eC
    rw [decide_eq_true (c2.2 h2), eC]
    repeat' (first|refine vs (k:=?_)|refine qRg ?_|refine Nx.h ?_|refine qCt ?_|fail)
    first | refine rt (hq := ?_) | refine rt' (hq := ?_)
    exact ⟨int_cong em, hs.only0 rfl⟩
  rw [if_neg h2] at eC
  rw [decide_eq_false (fun k => h2 (c2.1 k)), eC]
  repeat' (first|refine vs (k:=?_)|refine qRg ?_|refine Nx.h ?_|refine qCf ?_|fail)
  (with_reducible apply xs_call); exact rfl; exact rfl; exact small_ok x hx (by unfold In64; omega) _
  rintro v w' ⟨rfl, ho⟩; replace hs := hs.call0 ho; repeat' (first|refine vs (k:=?_)|refine qRg ?_|refine Nx.h ?_|fail)
  first | refine rt (hq := ?_) | refine rt' (hq := ?_)
  exact ⟨rfl, hs.only0 rfl⟩
end Go.Proofs.YtilajmcellffiaaGreatDoorX

namespace Go.Proofs.YtilajmcellffiaaGreatDoorX
open Go Go.RowKit
attribute [local irreducible] XS XC XA thenE blockE retE loopE loopS cutB cutN doneE SE
structure Cf where
  cores : Int
  tasks : Int
  tick : Int
  slice : Int
  origin : Int
def cfv (c : Cf) : Value := .agg #[.int .i64 c.cores, .int .i64 c.tasks, .int .u64 c.tick, .int .u64 c.slice, .int .u64 c.origin]
def Cf.In (c : Cf) : Prop := In64 c.cores ∧ In64 c.tasks ∧ U64 c.tick ∧ U64 c.slice ∧ U64 c.origin
def withinE (n e : Int) : Int := if n < 1 ∨ n > e then 3 else 0
theorem lwithin_ret (n e : Int) (w0 : World) : Ret Tryz.prog 80 #[.int .u64 n, .int .u64 e] w0 fun v w' => v = .int .i64 (withinE n e) ∧ Only [] w0 w' := by
  have hs := St.nil w0
  refine ret_of_xc Tryz.func80 (by kernel_rfl) rfl Tryz.ntmps80 rfl rfl rfl ?_
  repeat' (first|refine Nx.h ?_|fail)
  refine xc_region ?_ ?_; exact rfl
  refine vs (k := ?_)
  repeat' (first|refine Nx.h ?_|fail)
  refine xc_region ?_ ?_; exact rfl
  refine vs (k := ?_)
  refine vs (k := ?_)
  unfold withinE
  by_cases c1 : n < 1
  · rw [decide_eq_true c1, if_pos (.inl c1)]
    repeat' (first|refine vs (k:=?_)|refine ps (k:=?_)|refine qRg ?_|refine Nx.h ?_|refine qCt ?_|fail)
    first | refine rt (hq := ?_) | refine rt' (hq := ?_)
    exact ⟨rfl, hs.only0 rfl⟩
  rw [decide_eq_false c1]
  refine vs (k := ?_)
  refine vs (k := ?_)
  refine vs (k := ?_)
  refine vs (k := ?_)
  by_cases c2 : n > e
  · rw [decide_eq_true c2, if_pos (.inr c2)]
    repeat' (first|refine vs (k:=?_)|refine qRg ?_|refine Nx.h ?_|refine qCt ?_|fail)
    first | refine rt (hq := ?_) | refine rt' (hq := ?_)
    exact ⟨rfl, hs.only0 rfl⟩
  rw [decide_eq_false c2, if_neg (by omega)]
  repeat' (first|refine vs (k:=?_)|refine qRg ?_|refine Nx.h ?_|refine qCf ?_|fail)
  first | refine rt (hq := ?_) | refine rt' (hq := ?_)
  exact ⟨rfl, hs.only0 rfl⟩
def LsX (w : World) (k : Nat) (v : Value) (xs : List (List Value)) : Prop :=
  ∃ ad cap, v = .slice ad xs.length cap ∧ (xs ≠ [] → ∃ (b off : Nat) (cs : List Value) (E : TypeId) (fz : Nat × Nat), ad = some ⟨b, off, none⟩ ∧ w.heap[b]? = some (.cells cs.toArray E fz) ∧ ∀ (i : Nat) x, xs[i]? = some x → Pick cs (off + i * k) k x)
theorem LsAt.x {w : World} {E k : Nat} {v : Value} {xs : List (List Value)} (h : LsAt w E k v xs) : LsX w k v xs := by
  obtain ⟨ad, cap, rfl, h⟩ := h
  refine ⟨ad, cap, rfl, fun hn => ?_⟩
  obtain ⟨b, off, cs, fz, h1, _, h2, h3⟩ := h hn
  exact ⟨b, off, cs, E, fz, h1, h2, h3⟩
def errR (e : Int) : List Value := [.int .i64 e]
def allE : List Int → Int
  | [] => 0
  | e :: l => if e ≠ 0 then e else allE l
theorem allE_drop {l : List Int} {i : Nat} (h : i < l.length) : allE (l.drop i) = if l[i] ≠ 0 then l[i] else allE (l.drop (i + 1)) := by rw [List.drop_eq_getElem_cons h]; rfl
set_option maxHeartbeats 4000000 in
theorem all_ret (l : List Int) (sl : Value) (hm : l.length ≤ 9223372036854775807) (w0 : World) (hL : LsX w0 1 sl (l.map errR)) : Ret Tryz.prog 79 #[sl] w0 fun v w' => v = .int .i64 (allE l) ∧ Only [] w0 w' := by
  obtain ⟨ad, cap, rfl, hD⟩ := hL
  rw [List.length_map] at *
  have hs := St.nil w0
  refine ret_of_xc Tryz.func79 (by kernel_rfl) rfl Tryz.ntmps79 rfl rfl rfl ?_
  repeat' (first|refine vs (k:=?_)|refine qRg ?_|refine Nx.h ?_|fail)
  refine xc_cutB (fun (_ : Unit) => []) (fun _ w => allE l = 0 ∧ Only [] w0 w) ?_ ?_
  · refine xc_loopS (fun (i : Nat) => [(5, .slice ad l.length cap), (6, .int .i64 (l.length : Nat)), (7, .int .i64 (i : Nat))]) (fun i w => i ≤ l.length ∧ allE (l.drop i) = allE l ∧ Only [] w0 w) (fun i => l.length - i) 0 (by (repeat (first | exact agree_nil | (apply agree_cons; exact rfl)))) ⟨Nat.zero_le _, by rw [List.drop_zero], hs.only0 rfl⟩ fun i env wl ⟨hi, he, ho0⟩ => ?_
    clear hs
    have hs := St.nil wl
    repeat' (first|refine vs (k:=?_)|refine qRg ?_|refine Nx.h ?_|(refine xc_if rfl (fun hc=>?_) (fun hc=>?_))|fail)
    · have hlt : i < l.length := by omega
      obtain ⟨b, off, cs, E, fz, rfl, hb, hcs⟩ := hD (fun h => by have := congrArg List.length h; rw [List.length_map, List.length_nil] at this; omega)
      have hpk := hcs i (errR l[i]) (by rw [List.getElem?_map, List.getElem?_eq_getElem hlt]; rfl)
      have ei := nx64 (m := l.length) hlt hm
      rw [allE_drop hlt] at he
      generalize l[i] = q at *
      refine ix (h0 := (by omega)) (h1 := (by omega)) (k := ?_)
      refine lh (ho0.block hb (by simp)) (by cases hpk; assumption) (k := ?_)
      by_cases hq : q = 0
      · subst hq
        rw [if_neg (by simp)] at he
        repeat' (first|refine vs (k:=?_)|refine qRg ?_|refine Nx.h ?_|refine qCf ?_|fail)
        exact loopS_next (i + 1) (by show l.length - (i + 1) < l.length - i; omega) (by (repeat (first | exact agree_nil | (apply agree_cons; first | exact rfl | exact congrArg (Value.int .i64) ei)))) ⟨by show i + 1 ≤ _; omega, he, ho0.trans (hs.only0 rfl)⟩
      · rw [if_pos hq] at he
        repeat' (first|refine vs (k:=?_)|refine qRg ?_|refine Nx.h ?_|(refine xc_cond rfl (fun hc=>?_) (fun hc=>?_))|fail)
        · first | refine rt (hq := ?_) | refine rt' (hq := ?_)
          exact ⟨by rw [← he]; rfl, ho0.trans (hs.only0 rfl)⟩
        · exact absurd (by simpa using hc) hq
    · have e : i = l.length := by omega
      subst e
      rw [List.drop_length] at he
      exact cutB_exit () (by (repeat (first | exact agree_nil | (apply agree_cons; exact rfl)))) ⟨he.symm, ho0⟩
  · rintro _ env w ⟨he, ho0⟩
    clear hs
    have hs := St.nil w
    repeat' (first|refine vs (k:=?_)|refine qRg ?_|refine Nx.h ?_|fail)
    first | refine rt (hq := ?_) | refine rt' (hq := ?_)
    exact ⟨by rw [he]; rfl, ho0.trans (hs.only0 rfl)⟩
def coreE (c : Cf) (k : Int) : Int := if k < 0 ∨ k ≥ c.cores then 5 else 0
theorem ccore_ret (c : Cf) (k : Int) (w0 : World) : Ret Tryz.prog 32 #[cfv c, .int .i64 k] w0 fun v w' => v = .int .i64 (coreE c k) ∧ Only [] w0 w' := by
  have hs := St.nil w0
  refine ret_of_xc Tryz.func32 (by kernel_rfl) rfl Tryz.ntmps32 rfl rfl rfl ?_
  repeat' (first|refine Nx.h ?_|fail)
  refine xc_region ?_ ?_; exact rfl
  refine bx hs (k := ?_); intro b w hz hs
  refine vs (k := ?_)
  repeat' (first|refine Nx.h ?_|fail)
  refine xc_region ?_ ?_; exact rfl
  refine vs (k := ?_)
  refine vs (k := ?_)
  unfold coreE
  by_cases c1 : k < 0
  · rw [decide_eq_true c1, if_pos (.inl c1)]
    repeat' (first|refine vs (k:=?_)|refine ps (k:=?_)|refine qRg ?_|refine Nx.h ?_|refine qCt ?_|fail)
    first | refine rt (hq := ?_) | refine rt' (hq := ?_)
    exact ⟨rfl, hs.only0 rfl⟩
  rw [decide_eq_false c1]
  refine vs (k := ?_)
  refine vs (k := ?_)
  refine vs (k := ?_)
  refine vs (k := ?_)
  refine vs (k := ?_)
  by_cases c2 : c.cores ≤ k
  · rw [decide_eq_true c2, if_pos (.inr c2)]
    repeat' (first|refine vs (k:=?_)|refine qRg ?_|refine Nx.h ?_|refine qCt ?_|fail)
    first | refine rt (hq := ?_) | refine rt' (hq := ?_)
    exact ⟨rfl, hs.only0 rfl⟩
  rw [decide_eq_false c2, if_neg (by omega)]
  repeat' (first|refine vs (k:=?_)|refine qRg ?_|refine Nx.h ?_|refine qCf ?_|fail)
  first | refine rt (hq := ?_) | refine rt' (hq := ?_)
  exact ⟨rfl, hs.only0 rfl⟩
def capN (n : Int) : Int := if 1099511627776 < n then 1099511627776 else n
theorem crequest_ret (c : Cf) (n : Int) (w0 : World) : Ret Tryz.prog 36 #[cfv c, .int .u64 n] w0 fun v w' => v = .int .i64 (withinE n (capN c.slice)) ∧ Only [] w0 w' := by
  have hs := St.nil w0
  refine ret_of_xc Tryz.func36 (by kernel_rfl) rfl Tryz.ntmps36 rfl rfl rfl ?_
  repeat' (first|refine vs (k:=?_)|(refine bx hs (k:=?_);intro b w hz hs)|refine qRg ?_|refine Nx.h ?_|fail)
  (with_reducible apply xs_call); exact rfl; exact rfl; exact lwithin_ret n (capN c.slice) _
  rintro v w' ⟨rfl, ho⟩; replace hs := hs.call0 ho; repeat' (first|refine vs (k:=?_)|refine Nx.h ?_|fail)
  first | refine rt (hq := ?_) | refine rt' (hq := ?_)
  exact ⟨rfl, hs.only0 rfl⟩
theorem ctime_ret (c : Cf) (n : Int) (w0 : World) : Ret Tryz.prog 37 #[cfv c, .int .u64 n] w0 fun v w' => v = .int .i64 (withinE n (capN c.tick)) ∧ Only [] w0 w' := by
  have hs := St.nil w0
  refine ret_of_xc Tryz.func37 (by kernel_rfl) rfl Tryz.ntmps37 rfl rfl rfl ?_
  repeat' (first|refine vs (k:=?_)|(refine bx hs (k:=?_);intro b w hz hs)|refine qRg ?_|refine Nx.h ?_|fail)
  (with_reducible apply xs_call); exact rfl; exact rfl; exact lwithin_ret n (capN c.tick) _
  rintro v w' ⟨rfl, ho⟩; replace hs := hs.call0 ho; repeat' (first|refine vs (k:=?_)|refine Nx.h ?_|fail)
  first | refine rt (hq := ?_) | refine rt' (hq := ?_)
  exact ⟨rfl, hs.only0 rfl⟩
theorem cfweight_ret (c : Cf) (n : Int) (w0 : World) : Ret Tryz.prog 34 #[cfv c, .int .u64 n] w0 fun v w' => v = .int .i64 (withinE n 1048576) ∧ Only [] w0 w' := by
  have hs := St.nil w0
  refine ret_of_xc Tryz.func34 (by kernel_rfl) rfl Tryz.ntmps34 rfl rfl rfl ?_
  repeat' (first|refine vs (k:=?_)|(refine bx hs (k:=?_);intro b w hz hs)|refine qRg ?_|refine Nx.h ?_|fail)
  (with_reducible apply xs_call); exact rfl; exact rfl; exact lwithin_ret n 1048576 _
  rintro v w' ⟨rfl, ho⟩; replace hs := hs.call0 ho; repeat' (first|refine vs (k:=?_)|refine Nx.h ?_|fail)
  first | refine rt (hq := ?_) | refine rt' (hq := ?_)
  exact ⟨rfl, hs.only0 rfl⟩
def keepF (c : Cf) (x s : Int) : Int := clampW x ((winC s c.tick).getD 0)
theorem winC_in (s t : Int) : In64 ((winC s t).getD 0) := by
  unfold winC
  split
  · show In64 ((2 * s + t) * 1048576)
    unfold In64; omega
  · decide
theorem keep_ret (c : Cf) (x s : Int) (hc : c.In) (hx : InW x) (hs0 : U64 s) (w0 : World) : Ret Tryz.prog 40 #[cfv c, wv x, .int .u64 s] w0 fun v w' => v = .int .i64 (keepF c x s) ∧ Only [] w0 w' := by
  have hs := St.nil w0
  refine ret_of_xc Tryz.func40 (by kernel_rfl) rfl Tryz.ntmps40 rfl rfl rfl ?_
  repeat' (first|refine vs (k:=?_)|(refine bx hs (k:=?_);intro b w hz hs)|refine qRg ?_|refine Nx.h ?_|fail)
  (with_reducible apply xs_call); exact rfl; exact rfl; exact window_ret s c.tick hs0 hc.2.2.1 _
  rintro v w' ⟨rfl, ho⟩; replace hs := hs.call0 ho; repeat' (first|refine vs (k:=?_)|refine qRg ?_|refine Nx.h ?_|fail)
  (with_reducible apply xs_call); exact rfl; exact rfl; exact clamp_ret x ((winC s c.tick).getD 0) hx (winC_in _ _) _
  rintro v w' ⟨rfl, ho⟩; replace hs := hs.call0 ho; repeat' (first|refine vs (k:=?_)|refine Nx.h ?_|fail)
  first | refine rt (hq := ?_) | refine rt' (hq := ?_)
  exact ⟨rfl, hs.only0 rfl⟩
def checkF (c : Cf) : Int := if c.cores < 1 ∨ c.tasks < 1 then 3 else allE [withinE c.cores 8, withinE c.tasks 32, withinE c.tick 1099511627776, withinE c.slice 1099511627776]
set_option maxHeartbeats 4000000 in
theorem check_ret (c : Cf) (hc0 : c.In) (w0 : World) : Ret Tryz.prog 30 #[cfv c] w0 fun v w' => v = .int .i64 (checkF c) ∧ Only [] w0 w' := by
  obtain ⟨i1, i2, i3, i4, i5⟩ := hc0
  unfold In64 at i1 i2
  have hs := St.nil w0
  refine ret_of_xc Tryz.func30 (by kernel_rfl) rfl Tryz.ntmps30 rfl rfl rfl ?_
  repeat' (first|refine Nx.h ?_|fail)
  refine xc_region ?_ ?_; exact rfl
  refine bx hs (k := ?_); intro b w hz hs
  refine vs (k := ?_)
  repeat' (first|refine Nx.h ?_|fail)
  refine xc_region ?_ ?_; exact rfl
  refine vs (k := ?_)
  refine vs (k := ?_)
  refine vs (k := ?_)
  unfold checkF
  by_cases c1 : c.cores < 1
  · rw [decide_eq_true c1, if_pos (.inl c1)]
    repeat' (first|refine vs (k:=?_)|refine ps (k:=?_)|refine qRg ?_|refine Nx.h ?_|refine qCt ?_|fail)
    first | refine rt (hq := ?_) | refine rt' (hq := ?_)
    exact ⟨rfl, hs.only0 rfl⟩
  rw [decide_eq_false c1]
  refine vs (k := ?_)
  refine vs (k := ?_)
  refine vs (k := ?_)
  refine vs (k := ?_)
  by_cases c2 : c.tasks < 1
  · rw [decide_eq_true c2, if_pos (.inr c2)]
    repeat' (first|refine vs (k:=?_)|refine qRg ?_|refine Nx.h ?_|refine qCt ?_|fail)
    first | refine rt (hq := ?_) | refine rt' (hq := ?_)
    exact ⟨rfl, hs.only0 rfl⟩
  rw [decide_eq_false c2, if_neg (by omega)]
  repeat' (first|refine vs (k:=?_)|refine Nx.h ?_|refine qCf ?_|fail)
  have e1 : IntKind.u64.wrap c.cores = c.cores := by rw [wrap_u64]; omega
  have e2 : IntKind.u64.wrap c.tasks = c.tasks := by rw [wrap_u64]; omega
  refine dr [] hs (k := ?_); intro hX w hs
  refine tk 0 hX (k := ?_)
  refine tk 1 hX (k := ?_)
  refine tk 2 hX (k := ?_)
  refine tk 4 hX (k := ?_)
  refine tk 5 hX (k := ?_)
  refine tk 6 hX (k := ?_)
  refine tk 8 hX (k := ?_)
  refine tk 9 hX (k := ?_)
  refine tk 11 hX (k := ?_)
  refine tk 12 hX (k := ?_)
  refine dt 3 hX (k := ?_)
  (with_reducible apply xs_call); exact rfl; exact rfl; exact lwithin_ret (IntKind.u64.wrap c.cores) 8 _
  rw [e1]
  rintro v w' ⟨rfl, ho⟩; replace hs := hs.call0 ho; repeat' (first|refine Nx.h ?_|fail)
  refine dn (k := ?_)
  refine dt 7 hX (k := ?_)
  (with_reducible apply xs_call); exact rfl; exact rfl; exact lwithin_ret (IntKind.u64.wrap c.tasks) 32 _
  rw [e2]
  rintro v w' ⟨rfl, ho⟩; replace hs := hs.call0 ho; repeat' (first|refine Nx.h ?_|fail)
  refine dn (k := ?_)
  refine dt 10 hX (k := ?_)
  (with_reducible apply xs_call); exact rfl; exact rfl; exact lwithin_ret c.tick 1099511627776 _
  rintro v w' ⟨rfl, ho⟩; replace hs := hs.call0 ho; repeat' (first|refine Nx.h ?_|fail)
  refine dn (k := ?_)
  refine dt 13 hX (k := ?_)
  (with_reducible apply xs_call); exact rfl; exact rfl; exact lwithin_ret c.slice 1099511627776 _
  rintro v w' ⟨rfl, ho⟩; replace hs := hs.call0 ho; repeat' (first|refine Nx.h ?_|fail)
  refine dn (k := ?_)
  refine dt 14 hX (k := ?_)
  repeat' (first|(refine bs hs (k:=?_);intro b w hz hs)|refine Nx.h ?_|fail)
  refine dn (k := ?_)
  refine dt 15 hX (k := ?_)
  (with_reducible apply xs_call); exact rfl; exact rfl; exact all_ret [withinE c.cores 8, withinE c.tasks 32, withinE c.tick 1099511627776, withinE c.slice 1099511627776] _ (by simp) _ (lit_ls (n := 4) (hs.get At.head) rfl (fun x hx => by obtain ⟨e, _, rfl⟩ := List.mem_map.1 hx; rfl) rfl).x
  rintro v w' ⟨rfl, ho⟩; replace hs := hs.call0 ho; repeat' (first|refine Nx.h ?_|fail)
  refine dn (k := ?_)
  refine tk 16 hX (k := ?_)
  refine en (k := ?_)
  repeat' (first|refine Nx.h ?_|fail)
  first | refine rt (hq := ?_) | refine rt' (hq := ?_)
  exact ⟨rfl, hs.only0 rfl⟩
end Go.Proofs.YtilajmcellffiaaGreatDoorX

namespace Go.Proofs.YtilajmcellffiaaGreatDoorX
open Go Go.RowKit
attribute [local irreducible] XS XC XA thenE blockE retE loopE loopS cutB cutN doneE SE
set_option maxHeartbeats 4000000 in
theorem awake19_ret (w0 : World) (ht : Pows w0) : Ret Tryz.prog 29 #[] w0 fun v w' => v = .bool true ∧ Only [] w0 w' := by
  have hs := St.nil w0
  refine ret_of_xc Tryz.func29 (by kernel_rfl) rfl Tryz.ntmps29 rfl rfl rfl ?_
  repeat' (first|refine vs (k:=?_)|(refine stA hs (k:=?_);intro w hs)|(refine al hs (k:=?_);intro b w hz hs)|refine qRg ?_|refine Nx.h ?_|fail)
  (with_reducible apply xs_call); exact rfl; exact rfl; exact Awake18_ret _ (tab_only ht (hs.only0 rfl))
  rintro v w' ⟨rfl, ho⟩; replace hs := hs.call0 ho; repeat' (first|refine vs (k:=?_)|fail)
  (with_reducible apply xs_call); exact rfl; exact rfl; exact check_ret ⟨2, 3, 4, 5, 0⟩ (by unfold Cf.In; decide) _
  rw [show checkF ⟨2, 3, 4, 5, 0⟩ = 0 by decide]
  rintro v w' ⟨rfl, ho⟩; replace hs := hs.call0 ho; repeat' (first|refine vs (k:=?_)|fail)
  (with_reducible apply xs_call); exact rfl; exact rfl; exact ccore_ret ⟨2, 3, 4, 5, 0⟩ 2 _
  rw [show coreE ⟨2, 3, 4, 5, 0⟩ 2 = 5 by decide]
  rintro v w' ⟨rfl, ho⟩; replace hs := hs.call0 ho; repeat' (first|refine vs (k:=?_)|fail)
  (with_reducible apply xs_call); exact rfl; exact rfl; exact ccore_ret ⟨2, 3, 4, 5, 0⟩ 1 _
  rw [show coreE ⟨2, 3, 4, 5, 0⟩ 1 = 0 by decide]
  rintro v w' ⟨rfl, ho⟩; replace hs := hs.call0 ho; repeat' (first|refine vs (k:=?_)|refine Nx.h ?_|fail)
  first | refine rt (hq := ?_) | refine rt' (hq := ?_)
  exact ⟨rfl, hs.only0 rfl⟩
end Go.Proofs.YtilajmcellffiaaGreatDoorX

namespace Go.Proofs.YtilajmcellffiaaGreatDoorX
open Go Go.RowKit Go.ChangeShapes Go.WideShapes Go.ChangeAt
theorem shape_cfg : Tryz.prog.underlying 68 = some (.struct #[{ name := "Cores", type := 3, offset := 0, embedded := false, tag := "", pkgPath := "", byteOffset := 0 }, { name := "Tasks", type := 3, offset := 1, embedded := false, tag := "", pkgPath := "", byteOffset := 8 }, { name := "Tick", type := 22, offset := 2, embedded := false, tag := "", pkgPath := "", byteOffset := 16 }, { name := "Slice", type := 22, offset := 3, embedded := false, tag := "", pkgPath := "", byteOffset := 24 }, { name := "Origin", type := 22, offset := 4, embedded := false, tag := "", pkgPath := "", byteOffset := 32 }]) := by kernel_rfl
theorem rng_i64 {x : Int} (h : Lit.wf (.int .i64 x) = true) : In64 x := by
  have h : IntKind.i64.min ≤ x ∧ x ≤ IntKind.i64.max := by simpa [Lit.wf] using h
  have e1 : IntKind.i64.min = -9223372036854775808 := rfl
  have e2 : IntKind.i64.max = 9223372036854775807 := rfl
  unfold In64; omega
theorem rng_u64 {x : Int} (h : Lit.wf (.int .u64 x) = true) : U64 x := by
  have h : IntKind.u64.min ≤ x ∧ x ≤ IntKind.u64.max := by simpa [Lit.wf] using h
  have e1 : IntKind.u64.min = 0 := rfl
  have e2 : IntKind.u64.max = 18446744073709551615 := rfl
  unfold U64; omega
set_option maxRecDepth 100000 in
theorem open_cfg {H : Type} {enc : TypeId × Value → H} {W : World} {r : Reach} {b0 base : Nat} {spare : Nat → Bool} {held : Bool} {v : Value} {d : DataW H} {p : List MemPlace} (hv : Value.okWide Tryz.prog W r b0 68 v)
    (h : DataW.Trod enc Tryz.prog W base spare held 68 v d p) : ∃ c : Cf, c.In ∧ v = cfv c := by
  obtain ⟨cs, rfl, hsz⟩ := okWide_struct shape_cfg hv
  have hC : Tryz.prog.cellsOf 68 = 5 := by kernel_rfl
  rw [hC] at hsz
  obtain ⟨l⟩ := cs
  match l, hsz with
  | [v0, v1, v2, v3, v4], _ =>
    obtain ⟨fuel, hf⟩ := h
    obtain ⟨xs, n, _, _, hl, hlen, hq⟩ := DataW.trod_struct shape_cfg hf
    match xs, hlen with
    | [y0, y1, y2, y3, y4], _ =>
      have c1 : Tryz.prog.cellsOf 3 = 1 := by kernel_rfl
      have c2 : Tryz.prog.cellsOf 22 = 1 := by kernel_rfl
      have h0 := hq 0 _ rfl
      have h1 := hq 1 _ rfl
      have h2 := hq 2 _ rfl
      have h3 := hq 3 _ rfl
      have h4 := hq 4 _ rfl
      obtain ⟨a0, e0, _, w0⟩ := DataW.trod_int (t := 3) (k := .i64) (by kernel_rfl) h0
      obtain ⟨a1, e1, _, w1⟩ := DataW.trod_int (t := 3) (k := .i64) (by kernel_rfl) h1
      obtain ⟨a2, e2, _, w2⟩ := DataW.trod_int (t := 22) (k := .u64) (by kernel_rfl) h2
      obtain ⟨a3, e3, _, w3⟩ := DataW.trod_int (t := 22) (k := .u64) (by kernel_rfl) h3
      obtain ⟨a4, e4, _, w4⟩ := DataW.trod_int (t := 22) (k := .u64) (by kernel_rfl) h4
      have q0 : v0 = .int .i64 a0 := by
        have e : List.take (Tryz.prog.cellsOf 3) (List.drop 0 [v0, v1, v2, v3, v4]) = [.int .i64 a0] := e0
        rw [c1] at e; simpa using e
      have q1 : v1 = .int .i64 a1 := by
        have e : List.take (Tryz.prog.cellsOf 3) (List.drop 1 [v0, v1, v2, v3, v4]) = [.int .i64 a1] := e1
        rw [c1] at e; simpa using e
      have q2 : v2 = .int .u64 a2 := by
        have e : List.take (Tryz.prog.cellsOf 22) (List.drop 2 [v0, v1, v2, v3, v4]) = [.int .u64 a2] := e2
        rw [c2] at e; simpa using e
      have q3 : v3 = .int .u64 a3 := by
        have e : List.take (Tryz.prog.cellsOf 22) (List.drop 3 [v0, v1, v2, v3, v4]) = [.int .u64 a3] := e3
        rw [c2] at e; simpa using e
      have q4 : v4 = .int .u64 a4 := by
        have e : List.take (Tryz.prog.cellsOf 22) (List.drop 4 [v0, v1, v2, v3, v4]) = [.int .u64 a4] := e4
        rw [c2] at e; simpa using e
      exact ⟨⟨a0, a1, a2, a3, a4⟩, ⟨rng_i64 w0, rng_i64 w1, rng_u64 w2, rng_u64 w3, rng_u64 w4⟩, by rw [q0, q1, q2, q3, q4]; rfl⟩
end Go.Proofs.YtilajmcellffiaaGreatDoorX

namespace Go.Proofs.YtilajmcellffiaaGreatDoorX
open Go Go.RowKit
theorem within_cases (n e : Int) : (withinE n e = 3 ∧ (n < 1 ∨ n > e)) ∨ (withinE n e = 0 ∧ ¬ (n < 1 ∨ n > e)) := by
  unfold withinE
  by_cases h : n < 1 ∨ n > e
  · exact .inl ⟨if_pos h, h⟩
  · exact .inr ⟨if_neg h, h⟩
theorem check_eq (c : Cf) : checkF c = if c.cores < 1 ∨ c.cores > 8 ∨ c.tasks < 1 ∨ c.tasks > 32 ∨ c.tick < 1 ∨ c.tick > 1099511627776 ∨ c.slice < 1 ∨ c.slice > 1099511627776 then 3 else 0 := by
  unfold checkF
  rcases within_cases c.cores 8 with ⟨e1, h1⟩ | ⟨e1, h1⟩ <;> rcases within_cases c.tasks 32 with ⟨e2, h2⟩ | ⟨e2, h2⟩ <;> rcases within_cases c.tick 1099511627776 with ⟨e3, h3⟩ | ⟨e3, h3⟩ <;> rcases within_cases c.slice 1099511627776 with ⟨e4, h4⟩ | ⟨e4, h4⟩ <;> rw [e1, e2, e3, e4] <;> by_cases h0 : c.cores < 1 ∨ c.tasks < 1
  all_goals first
    | (rw [if_pos h0, if_pos (by omega)]; done)
    | (rw [if_neg h0, if_pos (by omega)]; rfl)
    | (rw [if_neg h0, if_neg (by omega)]; rfl)
theorem core_eq (c : Cf) (k : Int) : coreE c k = if k ≥ 0 ∧ k < c.cores then 0 else 5 := by
  unfold coreE
  by_cases h : k < 0 ∨ k ≥ c.cores
  · rw [if_pos h, if_neg (by omega)]
  · rw [if_neg h, if_pos (by omega)]
theorem within_eq (n e : Int) : withinE n e = if n ≥ 1 ∧ n ≤ e then 0 else 3 := by
  unfold withinE
  by_cases h : n < 1 ∨ n > e
  · rw [if_pos h, if_neg (by omega)]
  · rw [if_neg h, if_pos (by omega)]
theorem keep_none {c : Cf} {x s : Int} (h : winC s c.tick = none) : keepF c x s = 0 := by
  unfold keepF clampW
  rw [h]
  show (if x > max 0 0 then max 0 0 else if x < -max 0 0 then -max 0 0 else x) = 0
  split
  · omega
  · split <;> omega
end Go.Proofs.YtilajmcellffiaaGreatDoorX

namespace Go.Proofs.YtilajmcellffiaaGreatDoorX
open Go Go.RowKit
attribute [local irreducible] XS XC XA thenE blockE retE loopE loopS cutB cutN doneE SE
theorem valD_cut (ds : List Int) (i : Nat) (h : i < ds.length) : valD ds = valD (ds.take i) + 10000 ^ i * (dig ds i + 10000 * valD (ds.drop (i + 1))) := by
  have h1 := valD_append (ds.take i) (ds.drop i)
  rw [List.take_append_drop, List.length_take, Nat.min_eq_left (Nat.le_of_lt h), valD_drop] at h1
  exact h1
theorem valD_cut' (ds : List Int) (i : Nat) : valD ds = valD (ds.take i) + 10000 ^ i * (dig ds i + 10000 * valD (ds.drop (i + 1))) := by
  rcases Nat.lt_or_ge i ds.length with h | h
  · exact valD_cut ds i h
  · rw [List.take_of_length_le h, dig_ge h, List.drop_of_length_le (by omega)]; simp [valD]
theorem take_lt {ds : List Int} (h : DOk ds) (i : Nat) : 0 ≤ valD (ds.take i) ∧ valD (ds.take i) < 10000 ^ i := by
  have ht : DOk (ds.take i) := fun d hd => h d (List.mem_of_mem_take hd)
  have h1 := valD_lt ht
  have h2 := pow_mono' (show (ds.take i).length ≤ i by simp; omega)
  exact ⟨valD_nonneg ht, by omega⟩
theorem larger_lt {A B : List Int} (hA : DOk A) (hB : DOk B) {i : Nat} (hd : valD (A.drop (i + 1)) = valD (B.drop (i + 1))) (h : dig A i < dig B i) : valD A < valD B := by
  rw [valD_cut' A i, valD_cut' B i, hd]
  have h1 := take_lt hA i
  have h2 := take_lt hB i
  have h3 : (10000 : Int) ^ i * (dig A i + 10000 * valD (B.drop (i + 1)) + 1) ≤ 10000 ^ i * (dig B i + 10000 * valD (B.drop (i + 1))) := Int.mul_le_mul_of_nonneg_left (by omega) (Int.le_of_lt (pow_pos' i))
  rw [Int.mul_add, Int.mul_one] at h3
  omega
set_option maxHeartbeats 1000000 in
theorem larger_ret (na nb : Bool) (sa sb : Value) (A B : List Int) (w0 : World) (hDA : DAt w0 sa A) (hDB : DAt w0 sb B) (hA : DOk A) (hB : DOk B) (lA : A.length ≤ 1000) (lB : B.length ≤ 1000) :
    Ret Tryz.prog 167 #[.agg #[.bool na, sa], .agg #[.bool nb, sb]] w0 fun v w' => v = .int .i64 (cmpI (valD A) (valD B)) ∧ Only [] w0 w' := by
  obtain ⟨ada, ca, rfl, hDA'⟩ := id hDA
  obtain ⟨adb, cb, rfl, hDB'⟩ := id hDB
  have hs := St.nil w0
  refine ret_of_xc Tryz.func167 (by kernel_rfl) rfl Tryz.ntmps167 rfl rfl rfl ?_
  refine xc_seq ?_
  refine xc_region ?_ ?_; exact rfl
  refine bx hs (k := ?_); intro b2 w hz hs
  refine bx hs (k := ?_); intro b3 w hz hs
  have eM : IntKind.i64.wrap ((if ((B.length : Nat) : Int) > (A.length : Nat) then ((B.length : Nat) : Int) else (A.length : Nat)) - 1) = ((max A.length B.length : Nat) : Int) - 1 := by
    have e1 : (if ((B.length : Nat) : Int) > (A.length : Nat) then ((B.length : Nat) : Int) else (A.length : Nat)) - 1 = ((max A.length B.length : Nat) : Int) - 1 := by split <;> omega
    rw [e1]
    exact i64_small (by omega) (by omega)
  repeat' (first|refine vs (k:=?_)|refine qRg ?_|refine Nx.h ?_|fail)
  rw [eM]
  generalize hM : max A.length B.length = M at *
  refine xc_cutB (fun (_ : Unit) => []) (fun _ w => valD A = valD B ∧ St w0 D0 [(b3, .cells #[.bool nb, .slice adb B.length cb] 79, true), (b2, .cells #[.bool na, .slice ada A.length ca] 79, true)] w) ?_ ?_
  · refine xc_loopS (fun (k : Nat) => [(2, .pointer (some ⟨b2, 0, none⟩)), (3, .pointer (some ⟨b3, 0, none⟩)), (5, .int .i64 ((k : Nat) - 1))])
      (fun k w => k ≤ M ∧ valD (A.drop k) = valD (B.drop k) ∧ St w0 D0 [(b3, .cells #[.bool nb, .slice adb B.length cb] 79, true), (b2, .cells #[.bool na, .slice ada A.length ca] 79, true)] w)
      (fun k => k) M (by (repeat (first | exact agree_nil | (apply agree_cons; exact rfl)))) ⟨Nat.le_refl _, by rw [List.drop_of_length_le (by omega), List.drop_of_length_le (by omega)], hs⟩ fun k env w hI => ?_
    clear hs
    obtain ⟨hk, hv, hs⟩ := hI
    have e1 : 0 < k → (k : Int) - 1 = ((k - 1 : Nat) : Int) := fun h => by omega
    repeat' (first|refine vs (k:=?_)|refine qRg ?_|refine Nx.h ?_|(refine xc_if rfl (fun hc=>?_) (fun hc=>?_))|fail)
    · have hk0 : 0 < k := by omega
      rw [e1 hk0]
      have ek : k - 1 + 1 = k := by omega
      have ei : IntKind.i64.wrap (((k - 1 : Nat) : Int) - 1) = ((k - 1 : Nat) : Int) - 1 := i64_small (by omega) (by omega)
      generalize hi : k - 1 = i at *
      subst ek
      refine dr [] hs (k := ?_); intro hX w hs
      refine tk 0 hX (k := ?_)
      refine tk 1 hX (k := ?_)
      refine tk 3 hX (k := ?_)
      refine tk 4 hX (k := ?_)
      refine dt 2 hX (k := ?_)
      (with_reducible apply xs_call); exact rfl; exact rfl; exact digit_ret na _ A _ (hDA.only (hs.only0 rfl)) i
      rintro v w' ⟨rfl, ho⟩; replace hs := hs.call0 ho; repeat' (first|refine Nx.h ?_|fail)
      refine dn (k := ?_)
      refine dt 5 hX (k := ?_)
      (with_reducible apply xs_call); exact rfl; exact rfl; exact digit_ret nb _ B _ (hDB.only (hs.only0 rfl)) i
      rintro v w' ⟨rfl, ho⟩; replace hs := hs.call0 ho; repeat' (first|refine Nx.h ?_|fail)
      refine dn (k := ?_)
      refine tk 6 hX (k := ?_)
      refine en (k := ?_)
      repeat' (first|refine vs (k:=?_)|refine qRg ?_|refine Nx.h ?_|(refine xc_if rfl (fun hc=>?_) (fun hc=>?_))|fail)
      · first | refine rt (hq := ?_) | refine rt' (hq := ?_)
        refine ⟨?_, hs.only0 rfl⟩
        have h := larger_lt hA hB hv hc
        unfold cmpI; rw [if_pos h]; rfl
      · refine dr [] hs (k := ?_); intro hX w hs
        refine tk 0 hX (k := ?_)
        refine tk 1 hX (k := ?_)
        refine tk 3 hX (k := ?_)
        refine tk 4 hX (k := ?_)
        refine dt 2 hX (k := ?_)
        (with_reducible apply xs_call); exact rfl; exact rfl; exact digit_ret na _ A _ (hDA.only (hs.only0 rfl)) i
        rintro v w' ⟨rfl, ho⟩; replace hs := hs.call0 ho; repeat' (first|refine Nx.h ?_|fail)
        refine dn (k := ?_)
        refine dt 5 hX (k := ?_)
        (with_reducible apply xs_call); exact rfl; exact rfl; exact digit_ret nb _ B _ (hDB.only (hs.only0 rfl)) i
        rintro v w' ⟨rfl, ho⟩; replace hs := hs.call0 ho; repeat' (first|refine Nx.h ?_|fail)
        refine dn (k := ?_)
        refine tk 6 hX (k := ?_)
        refine en (k := ?_)
        repeat' (first|refine vs (k:=?_)|refine qRg ?_|refine Nx.h ?_|(refine xc_if rfl (fun hc=>?_) (fun hc=>?_))|fail)
        · first | refine rt (hq := ?_) | refine rt' (hq := ?_)
          refine ⟨?_, hs.only0 rfl⟩
          have h := larger_lt hB hA hv.symm hc
          unfold cmpI; rw [if_neg (by omega), if_pos h]; rfl
        · have he : dig A i = dig B i := by omega
          refine loopS_next i (by omega) (by (repeat (first | exact agree_nil | (apply agree_cons; first | exact rfl | exact congrArg (Value.int .i64) ei)))) ⟨by omega, ?_, hs⟩
          rw [valD_drop A, valD_drop B, hv, he]
    · have hk0 : k = 0 := by omega
      subst hk0
      exact cutB_exit () (by (repeat (first | exact agree_nil | (apply agree_cons; exact rfl)))) ⟨by simpa using hv, hs⟩
  · rintro _ env w ⟨he, hs⟩
    repeat' (first|refine vs (k:=?_)|refine qRg ?_|refine Nx.h ?_|fail)
    first | refine rt (hq := ?_) | refine rt' (hq := ?_)
    refine ⟨?_, hs.only0 rfl⟩
    rw [he, cmpI]; simp [packed]
end Go.Proofs.YtilajmcellffiaaGreatDoorX

namespace Go.Proofs.YtilajmcellffiaaGreatDoorX
open Go Go.RowKit
attribute [local irreducible] XS XC XA thenE blockE retE loopE loopS cutB cutN doneE SE
set_option maxHeartbeats 2000000 in
theorem bigAdd_ret (v u : Value) (x y : Int) (w0 : World) (hBx : BigAt w0 v x) (hBy : BigAt w0 u y) (hx : InB x) (hy : InB y) : Ret Tryz.prog 123 #[v, u] w0 fun v w' => BigAt w' v (x + y) ∧ Only [] w0 w' := by
  obtain ⟨na, sa, A, rfl, hDA, hA, tA, zA, rfl⟩ := hBx
  obtain ⟨nb, sb, B, rfl, hDB, hB0, tB, zB, rfl⟩ := hBy
  have lA : A.length ≤ 60 := len_in hA tA hx
  have lB : B.length ≤ 60 := len_in hB0 tB hy
  obtain ⟨ada, ca, rfl, _⟩ := id hDA
  obtain ⟨adb, cb, rfl, _⟩ := id hDB
  have hs := St.nil w0
  have hnA := valD_nonneg hA
  have hnB := valD_nonneg hB0
  have hAB : valD A ≤ valD B → A.length ≤ B.length := fun h => len_le hA tA (by have := valD_lt hB0; omega)
  have hBA : valD B ≤ valD A → B.length ≤ A.length := fun h => len_le hB0 tB (by have := valD_lt hA; omega)
  cases na <;> cases nb
  · refine ret_of_xc Tryz.func123 (by kernel_rfl) rfl Tryz.ntmps123 rfl rfl rfl ?_
    repeat' (first|refine vs (k:=?_)|(refine al hs (k:=?_);intro b w hz hs)|(refine bx hs (k:=?_);intro b w hz hs)|refine qRg ?_|refine Nx.h ?_|refine qCt ?_|fail)
    refine dr [7] hs (k := ?_); intro hX w hs
    refine tk 0 hX (k := ?_)
    refine tk 1 hX (k := ?_)
    refine tk 2 hX (k := ?_)
    refine tk 3 hX (k := ?_)
    refine dt 4 hX (k := ?_)
    (with_reducible apply xs_call); exact rfl; exact rfl; exact plus_ret false false _ _ A B _ (hDA.only (hs.only0 rfl)) (hDB.only (hs.only0 rfl)) hA hB0 (by omega) (by omega)
    rintro v w' ⟨⟨ds, hd, hok, hl, hv⟩, ho⟩; replace hs := hs.call0 ho
    obtain ⟨ad, cap, rfl, _⟩ := id hd
    repeat' (first|refine Nx.h ?_|fail)
    refine dn (k := ?_)
    refine tk 5 hX (k := ?_)
    refine dt 6 hX (k := ?_)
    (with_reducible apply xs_call); exact rfl; exact rfl; exact trim_ret false _ ds _ hd hok (by omega)
    rintro v w' ⟨hB, ho⟩; replace hs := hs.call0 ho
    obtain ⟨n1, a1, l1, c1, rfl⟩ := hB.shape
    obtain ⟨R, hs, hB⟩ := hB.read hs rfl
    repeat' (first|refine Nx.h ?_|fail)
    refine dn (k := ?_)
    refine dt 7 hX (k := ?_)
    repeat' (first|(refine stA hs (k:=?_);intro w hs)|refine Nx.h ?_|fail)
    refine dn (k := ?_)
    refine en (k := ?_)
    repeat' (first|refine Nx.h ?_|fail)
    first | refine rt (hq := ?_) | refine rt' (hq := ?_)
    refine ⟨?_, hs.only0 rfl⟩
    have h := hB _ (fun e he => hs.ro e (List.mem_append_left _ he))
    rw [hv] at h
    have e : sg false (valD A + valD B) = sg false (valD A) + sg false (valD B) := by simp only [sg, cond_true, cond_false] <;> omega
    rw [← e]
    exact h
  · refine ret_of_xc Tryz.func123 (by kernel_rfl) rfl Tryz.ntmps123 rfl rfl rfl ?_
    repeat' (first|refine vs (k:=?_)|(refine al hs (k:=?_);intro b w hz hs)|(refine bx hs (k:=?_);intro b w hz hs)|refine qRg ?_|refine Nx.h ?_|refine qCf ?_|fail)
    (with_reducible apply xs_call); exact rfl; exact rfl; exact larger_ret false true _ _ A B _ (hDA.only (hs.only0 rfl)) (hDB.only (hs.only0 rfl)) hA hB0 (by omega) (by omega)
    rintro v w' ⟨rfl, ho⟩; replace hs := hs.call0 ho; repeat' (first|refine vs (k:=?_)|refine Nx.h ?_|(refine xc_if rfl (fun hc=>?_) (fun hc=>?_))|fail)
    · have hge : valD B ≤ valD A := by
        revert hc; unfold cmpI; split <;> (try split) <;> omega
      refine dr [7] hs (k := ?_); intro hX w hs
      refine tk 0 hX (k := ?_)
      refine tk 1 hX (k := ?_)
      refine tk 2 hX (k := ?_)
      refine tk 3 hX (k := ?_)
      refine dt 4 hX (k := ?_)
      (with_reducible apply xs_call); exact rfl; exact rfl; exact minus_ret false true _ _ A B _ (hDA.only (hs.only0 rfl)) (hDB.only (hs.only0 rfl)) hA hB0 (by omega) (hBA hge) hge
      rintro v w' ⟨⟨ds, hd, hok, hl, hv⟩, ho⟩; replace hs := hs.call0 ho
      obtain ⟨ad, cap, rfl, _⟩ := id hd
      repeat' (first|refine Nx.h ?_|fail)
      refine dn (k := ?_)
      refine tk 5 hX (k := ?_)
      refine dt 6 hX (k := ?_)
      (with_reducible apply xs_call); exact rfl; exact rfl; exact trim_ret false _ ds _ hd hok (by omega)
      rintro v w' ⟨hB, ho⟩; replace hs := hs.call0 ho
      obtain ⟨n1, a1, l1, c1, rfl⟩ := hB.shape
      obtain ⟨R, hs, hB⟩ := hB.read hs rfl
      repeat' (first|refine Nx.h ?_|fail)
      refine dn (k := ?_)
      refine dt 7 hX (k := ?_)
      repeat' (first|(refine stA hs (k:=?_);intro w hs)|refine Nx.h ?_|fail)
      refine dn (k := ?_)
      refine en (k := ?_)
      repeat' (first|refine Nx.h ?_|fail)
      first | refine rt (hq := ?_) | refine rt' (hq := ?_)
      refine ⟨?_, hs.only0 rfl⟩
      have h := hB _ (fun e he => hs.ro e (List.mem_append_left _ he))
      rw [hv] at h
      have e : sg false (valD A - valD B) = sg false (valD A) + sg true (valD B) := by simp only [sg, cond_true, cond_false] <;> omega
      rw [← e]
      exact h
    · have hge : valD A ≤ valD B := by
        revert hc; unfold cmpI; split <;> (try split) <;> omega
      refine dr [7] hs (k := ?_); intro hX w hs
      refine tk 0 hX (k := ?_)
      refine tk 1 hX (k := ?_)
      refine tk 2 hX (k := ?_)
      refine tk 3 hX (k := ?_)
      refine dt 4 hX (k := ?_)
      (with_reducible apply xs_call); exact rfl; exact rfl; exact minus_ret true false _ _ B A _ (hDB.only (hs.only0 rfl)) (hDA.only (hs.only0 rfl)) hB0 hA (by omega) (hAB hge) hge
      rintro v w' ⟨⟨ds, hd, hok, hl, hv⟩, ho⟩; replace hs := hs.call0 ho
      obtain ⟨ad, cap, rfl, _⟩ := id hd
      repeat' (first|refine Nx.h ?_|fail)
      refine dn (k := ?_)
      refine tk 5 hX (k := ?_)
      refine dt 6 hX (k := ?_)
      (with_reducible apply xs_call); exact rfl; exact rfl; exact trim_ret true _ ds _ hd hok (by omega)
      rintro v w' ⟨hB, ho⟩; replace hs := hs.call0 ho
      obtain ⟨n1, a1, l1, c1, rfl⟩ := hB.shape
      obtain ⟨R, hs, hB⟩ := hB.read hs rfl
      repeat' (first|refine Nx.h ?_|fail)
      refine dn (k := ?_)
      refine dt 7 hX (k := ?_)
      repeat' (first|(refine stA hs (k:=?_);intro w hs)|refine Nx.h ?_|fail)
      refine dn (k := ?_)
      refine en (k := ?_)
      repeat' (first|refine Nx.h ?_|fail)
      first | refine rt (hq := ?_) | refine rt' (hq := ?_)
      refine ⟨?_, hs.only0 rfl⟩
      have h := hB _ (fun e he => hs.ro e (List.mem_append_left _ he))
      rw [hv] at h
      have e : sg true (valD B - valD A) = sg false (valD A) + sg true (valD B) := by simp only [sg, cond_true, cond_false] <;> omega
      rw [← e]
      exact h
  · refine ret_of_xc Tryz.func123 (by kernel_rfl) rfl Tryz.ntmps123 rfl rfl rfl ?_
    repeat' (first|refine vs (k:=?_)|(refine al hs (k:=?_);intro b w hz hs)|(refine bx hs (k:=?_);intro b w hz hs)|refine qRg ?_|refine Nx.h ?_|refine qCf ?_|fail)
    (with_reducible apply xs_call); exact rfl; exact rfl; exact larger_ret true false _ _ A B _ (hDA.only (hs.only0 rfl)) (hDB.only (hs.only0 rfl)) hA hB0 (by omega) (by omega)
    rintro v w' ⟨rfl, ho⟩; replace hs := hs.call0 ho; repeat' (first|refine vs (k:=?_)|refine Nx.h ?_|(refine xc_if rfl (fun hc=>?_) (fun hc=>?_))|fail)
    · have hge : valD B ≤ valD A := by
        revert hc; unfold cmpI; split <;> (try split) <;> omega
      refine dr [7] hs (k := ?_); intro hX w hs
      refine tk 0 hX (k := ?_)
      refine tk 1 hX (k := ?_)
      refine tk 2 hX (k := ?_)
      refine tk 3 hX (k := ?_)
      refine dt 4 hX (k := ?_)
      (with_reducible apply xs_call); exact rfl; exact rfl; exact minus_ret true false _ _ A B _ (hDA.only (hs.only0 rfl)) (hDB.only (hs.only0 rfl)) hA hB0 (by omega) (hBA hge) hge
      rintro v w' ⟨⟨ds, hd, hok, hl, hv⟩, ho⟩; replace hs := hs.call0 ho
      obtain ⟨ad, cap, rfl, _⟩ := id hd
      repeat' (first|refine Nx.h ?_|fail)
      refine dn (k := ?_)
      refine tk 5 hX (k := ?_)
      refine dt 6 hX (k := ?_)
      (with_reducible apply xs_call); exact rfl; exact rfl; exact trim_ret true _ ds _ hd hok (by omega)
      rintro v w' ⟨hB, ho⟩; replace hs := hs.call0 ho
      obtain ⟨n1, a1, l1, c1, rfl⟩ := hB.shape
      obtain ⟨R, hs, hB⟩ := hB.read hs rfl
      repeat' (first|refine Nx.h ?_|fail)
      refine dn (k := ?_)
      refine dt 7 hX (k := ?_)
      repeat' (first|(refine stA hs (k:=?_);intro w hs)|refine Nx.h ?_|fail)
      refine dn (k := ?_)
      refine en (k := ?_)
      repeat' (first|refine Nx.h ?_|fail)
      first | refine rt (hq := ?_) | refine rt' (hq := ?_)
      refine ⟨?_, hs.only0 rfl⟩
      have h := hB _ (fun e he => hs.ro e (List.mem_append_left _ he))
      rw [hv] at h
      have e : sg true (valD A - valD B) = sg true (valD A) + sg false (valD B) := by simp only [sg, cond_true, cond_false] <;> omega
      rw [← e]
      exact h
    · have hge : valD A ≤ valD B := by
        revert hc; unfold cmpI; split <;> (try split) <;> omega
      refine dr [7] hs (k := ?_); intro hX w hs
      refine tk 0 hX (k := ?_)
      refine tk 1 hX (k := ?_)
      refine tk 2 hX (k := ?_)
      refine tk 3 hX (k := ?_)
      refine dt 4 hX (k := ?_)
      (with_reducible apply xs_call); exact rfl; exact rfl; exact minus_ret false true _ _ B A _ (hDB.only (hs.only0 rfl)) (hDA.only (hs.only0 rfl)) hB0 hA (by omega) (hAB hge) hge
      rintro v w' ⟨⟨ds, hd, hok, hl, hv⟩, ho⟩; replace hs := hs.call0 ho
      obtain ⟨ad, cap, rfl, _⟩ := id hd
      repeat' (first|refine Nx.h ?_|fail)
      refine dn (k := ?_)
      refine tk 5 hX (k := ?_)
      refine dt 6 hX (k := ?_)
      (with_reducible apply xs_call); exact rfl; exact rfl; exact trim_ret false _ ds _ hd hok (by omega)
      rintro v w' ⟨hB, ho⟩; replace hs := hs.call0 ho
      obtain ⟨n1, a1, l1, c1, rfl⟩ := hB.shape
      obtain ⟨R, hs, hB⟩ := hB.read hs rfl
      repeat' (first|refine Nx.h ?_|fail)
      refine dn (k := ?_)
      refine dt 7 hX (k := ?_)
      repeat' (first|(refine stA hs (k:=?_);intro w hs)|refine Nx.h ?_|fail)
      refine dn (k := ?_)
      refine en (k := ?_)
      repeat' (first|refine Nx.h ?_|fail)
      first | refine rt (hq := ?_) | refine rt' (hq := ?_)
      refine ⟨?_, hs.only0 rfl⟩
      have h := hB _ (fun e he => hs.ro e (List.mem_append_left _ he))
      rw [hv] at h
      have e : sg false (valD B - valD A) = sg true (valD A) + sg false (valD B) := by simp only [sg, cond_true, cond_false] <;> omega
      rw [← e]
      exact h
  · refine ret_of_xc Tryz.func123 (by kernel_rfl) rfl Tryz.ntmps123 rfl rfl rfl ?_
    repeat' (first|refine vs (k:=?_)|(refine al hs (k:=?_);intro b w hz hs)|(refine bx hs (k:=?_);intro b w hz hs)|refine qRg ?_|refine Nx.h ?_|refine qCt ?_|fail)
    refine dr [7] hs (k := ?_); intro hX w hs
    refine tk 0 hX (k := ?_)
    refine tk 1 hX (k := ?_)
    refine tk 2 hX (k := ?_)
    refine tk 3 hX (k := ?_)
    refine dt 4 hX (k := ?_)
    (with_reducible apply xs_call); exact rfl; exact rfl; exact plus_ret true true _ _ A B _ (hDA.only (hs.only0 rfl)) (hDB.only (hs.only0 rfl)) hA hB0 (by omega) (by omega)
    rintro v w' ⟨⟨ds, hd, hok, hl, hv⟩, ho⟩; replace hs := hs.call0 ho
    obtain ⟨ad, cap, rfl, _⟩ := id hd
    repeat' (first|refine Nx.h ?_|fail)
    refine dn (k := ?_)
    refine tk 5 hX (k := ?_)
    refine dt 6 hX (k := ?_)
    (with_reducible apply xs_call); exact rfl; exact rfl; exact trim_ret true _ ds _ hd hok (by omega)
    rintro v w' ⟨hB, ho⟩; replace hs := hs.call0 ho
    obtain ⟨n1, a1, l1, c1, rfl⟩ := hB.shape
    obtain ⟨R, hs, hB⟩ := hB.read hs rfl
    repeat' (first|refine Nx.h ?_|fail)
    refine dn (k := ?_)
    refine dt 7 hX (k := ?_)
    repeat' (first|(refine stA hs (k:=?_);intro w hs)|refine Nx.h ?_|fail)
    refine dn (k := ?_)
    refine en (k := ?_)
    repeat' (first|refine Nx.h ?_|fail)
    first | refine rt (hq := ?_) | refine rt' (hq := ?_)
    refine ⟨?_, hs.only0 rfl⟩
    have h := hB _ (fun e he => hs.ro e (List.mem_append_left _ he))
    rw [hv] at h
    have e : sg true (valD A + valD B) = sg true (valD A) + sg true (valD B) := by simp only [sg, cond_true, cond_false] <;> omega
    rw [← e]
    exact h
theorem bigSub_ret (v u : Value) (x y : Int) (w0 : World) (hBx : BigAt w0 v x) (hBy : BigAt w0 u y) (hx : InB x) (hy : InB y) : Ret Tryz.prog 82 #[v, u] w0 fun v w' => BigAt w' v (x - y) ∧ Only [] w0 w' := by
  obtain ⟨na, aa, la, ca, rfl⟩ := hBx.shape
  obtain ⟨nb, ab, lb, cb, rfl⟩ := hBy.shape
  have hs := St.nil w0
  refine ret_of_xc Tryz.func82 (by kernel_rfl) rfl Tryz.ntmps82 rfl rfl rfl ?_
  repeat' (first|(refine al hs (k:=?_);intro b w hz hs)|(refine bx hs (k:=?_);intro b w hz hs)|refine qRg ?_|refine Nx.h ?_|fail)
  refine dr [4] hs (k := ?_); intro hX w hs
  refine tk 0 hX (k := ?_)
  refine tk 1 hX (k := ?_)
  refine dt 2 hX (k := ?_)
  (with_reducible apply xs_call); exact rfl; exact rfl; exact bigNeg_ret _ y _ (hBy.only (hs.only0 rfl)) hy
  rintro v w' ⟨hB, ho⟩; replace hs := hs.call0 ho
  repeat' (first|refine Nx.h ?_|fail)
  refine dn (k := ?_)
  refine dt 3 hX (k := ?_)
  (with_reducible apply xs_call); exact rfl; exact rfl; exact bigAdd_ret _ _ x (-y) _ (hBx.only (hs.only0 rfl)) hB hx (by obtain ⟨h1, h2⟩ := hy; exact ⟨by omega, by omega⟩)
  rintro v w' ⟨hB, ho⟩; replace hs := hs.call0 ho
  obtain ⟨n1, a1, l1, c1, rfl⟩ := hB.shape
  obtain ⟨R, hs, hB⟩ := hB.read hs rfl
  repeat' (first|refine Nx.h ?_|fail)
  refine dn (k := ?_)
  refine dt 4 hX (k := ?_)
  repeat' (first|(refine stA hs (k:=?_);intro w hs)|refine Nx.h ?_|fail)
  refine dn (k := ?_)
  refine en (k := ?_)
  repeat' (first|refine Nx.h ?_|fail)
  first | refine rt (hq := ?_) | refine rt' (hq := ?_)
  refine ⟨?_, hs.only0 rfl⟩
  have h := hB _ (fun e he => hs.ro e (List.mem_append_left _ he))
  rw [← Int.sub_eq_add_neg] at h
  exact h
theorem bigCmp_ret (v u : Value) (x y : Int) (w0 : World) (hBx : BigAt w0 v x) (hBy : BigAt w0 u y) (hx : InB x) (hy : InB y) : Ret Tryz.prog 38 #[v, u] w0 fun v w' => v = .int .i64 (cmpI x y) ∧ Only [] w0 w' := by
  obtain ⟨na, aa, la, ca, rfl⟩ := hBx.shape
  obtain ⟨nb, ab, lb, cb, rfl⟩ := hBy.shape
  have hs := St.nil w0
  refine ret_of_xc Tryz.func38 (by kernel_rfl) rfl Tryz.ntmps38 rfl rfl rfl ?_
  repeat' (first|refine vs (k:=?_)|(refine bx hs (k:=?_);intro b w hz hs)|refine qRg ?_|refine Nx.h ?_|fail)
  (with_reducible apply xs_call); exact rfl; exact rfl; exact bigSub_ret _ _ x y _ (hBx.only (hs.only0 rfl)) (hBy.only (hs.only0 rfl)) hx hy
  rintro v w' ⟨hB, ho⟩; replace hs := hs.call0 ho
  skip
  (with_reducible apply xs_call); exact rfl; exact rfl; exact bigSign_ret _ (x - y) _ hB
  rintro v w' ⟨rfl, ho⟩; replace hs := hs.call0 ho
  repeat' (first|refine vs (k:=?_)|refine Nx.h ?_|fail)
  first | refine rt (hq := ?_) | refine rt' (hq := ?_)
  refine ⟨?_, hs.only0 rfl⟩
  have : cmpI (x - y) 0 = cmpI x y := by
    unfold cmpI
    repeat' split
    all_goals omega
  rw [this]; rfl
end Go.Proofs.YtilajmcellffiaaGreatDoorX

namespace Go.Proofs.YtilajmcellffiaaGreatDoorX
open Go Go.RowKit
attribute [local irreducible] XS XC XA thenE blockE retE loopE loopS cutB cutN doneE SE
structure Dgs (X : Int) (xs : List Int) (n : Nat) (y : Int) : Prop where
  len : xs.length = n
  ok : DOk xs
  y0 : 0 ≤ y
  y1 : y < 18446744073709551616
  sum : valD xs + 10000 ^ n * y = X
  trim : y = 0 → Trim xs
theorem dgs_lt {X : Int} {xs : List Int} {n : Nat} {y : Int} (h : Dgs X xs n y) (hX : X < 18446744073709551616) (hy : 0 < y) : n < 5 := by
  rcases Nat.lt_or_ge n 5 with h5 | h5
  · exact h5
  · have h1 := pow_mono' h5
    have h2 := valD_nonneg h.ok
    have h3 : (10000 : Int) ^ n * 1 ≤ 10000 ^ n * y := Int.mul_le_mul_of_nonneg_left (by omega) (Int.le_of_lt (pow_pos' n))
    have h4 := h.sum
    omega
theorem dgs_next {X : Int} {xs : List Int} {n : Nat} {y : Int} (h : Dgs X xs n y) (hy : 0 < y) : Dgs X (xs ++ [y % 10000]) (n + 1) (y / 10000) := by
  obtain ⟨h1, h2, h3, h4, h5, h6⟩ := h
  refine ⟨by simp [h1], h2.snoc (by omega) (by omega), by omega, by omega, ?_, fun h0 d hd => ?_⟩
  · rw [valD_snoc, h1, Int.pow_succ]
    have e := Int.mul_ediv_add_emod y 10000
    generalize y / 10000 = q at *
    generalize y % 10000 = r at *
    have : (10000 : Int) ^ n * r + 10000 ^ n * 10000 * q = 10000 ^ n * y := by rw [← e]; grind
    omega
  · simp at hd; subst hd; omega
set_option maxHeartbeats 1000000 in
theorem bigU_ret (X : Int) (w0 : World) (hX0 : 0 ≤ X) (hX1 : X < 18446744073709551616) : Ret Tryz.prog 83 #[.int .u64 X] w0 fun v w' => BigAt w' v X ∧ Only [] w0 w' := by
  have hs := St.nil w0
  refine ret_of_xc Tryz.func83 (by kernel_rfl) rfl Tryz.ntmps83 rfl rfl rfl ?_
  refine xc_seq ?_
  refine xc_region ?_ ?_; exact rfl
  refine al hs (k := ?_); intro b2 w hz hs
  repeat' (first|refine Nx.h ?_|fail)
  refine xc_region ?_ ?_; exact rfl
  refine al hs (k := ?_); intro b3 w hz hs
  repeat' (first|refine Nx.h ?_|fail)
  refine xc_cutB (fun (_ : Unit) => [(2, .pointer (some ⟨b2, 0, none⟩)), (3, .pointer (some ⟨b3, 0, none⟩))]) (fun _ w => ∃ v xs n, Dgs X xs n 0 ∧ OwnS w0 D0 [(b3, .cells #[.bool false, v] 79, true), (b2, .cells #[.bool false, .slice none 0 0] 79, true)] 3 1 v n (ints xs) w) ?_ ?_
  · refine xc_loopS (fun (s : Int × Value × List Int × Nat) => [(2, .pointer (some ⟨b2, 0, none⟩)), (3, .pointer (some ⟨b3, 0, none⟩)), (0, .int .u64 s.1)])
      (fun s w => Dgs X s.2.2.1 s.2.2.2 s.1 ∧ OwnS w0 D0 [(b3, .cells #[.bool false, s.2.1] 79, true), (b2, .cells #[.bool false, .slice none 0 0] 79, true)] 3 1 s.2.1 s.2.2.2 (ints s.2.2.1) w)
      (fun s => s.1.toNat) (X, .slice none 0 0, [], 0) (by (repeat (first | exact agree_nil | (apply agree_cons; exact rfl)))) ⟨⟨rfl, DOk.nil, hX0, hX1, by simp [valD], fun _ d h => by cases h⟩, .inl ⟨rfl, rfl, rfl, hs⟩⟩ fun s env w hI => ?_
    obtain ⟨hp, hO⟩ := hI
    clear hs
    generalize hy : s.1 = y at *
    generalize hvv : s.2.1 = v at *
    generalize hxs : s.2.2.1 = xs at *
    generalize hnn : s.2.2.2 = n at *
    have hy0 := hp.y0
    have hy1 := hp.y1
    repeat' (first|refine vs (k:=?_)|refine qRg ?_|refine Nx.h ?_|(refine xc_if rfl (fun hc=>?_) (fun hc=>?_))|fail)
    · have hlt := dgs_lt hp hX1 hc
      have e10 : IntKind.i64.wrap (y % 10000) = y % 10000 := i64_small (by omega) (by omega)
      rcases hO with ⟨rfl, hn, hx, hs⟩ | ⟨g, cap, cur, rfl, hcap, hcl, hxl, htk, hs⟩
      all_goals (
        repeat' (first|refine vs (k:=?_)|(refine bs hs (k:=?_);intro b w hz hs)|fail)
        rw [e10] at hs ⊢
        refine apd (k := n) (xs := ints xs) (news := [.int .i64 (y % 10000)]) (by first | exact .inl ⟨rfl, hn, hx, hs⟩ | exact .inr ⟨_, _, _, rfl, hcap, hcl, hxl, htk, hs.swap⟩) (hk := by omega) (hk' := by simp only [maxLen]; omega) (kk := ?_)
        intro v' w hO' hv'
        rw [ints_snoc] at hO'
        clear hs
        rcases hO' with ⟨h, _⟩ | ⟨g', cap', cur', rfl, hcap', hcl', hxl', htk', hs⟩
        · exact absurd h hv'
        repeat' (first|refine vs (k:=?_)|(refine st hs (k:=?_);intro w hs)|refine qRg ?_|refine Nx.h ?_|fail)
        exact loopS_next (y / 10000, _, xs ++ [y % 10000], n + 1) (by simp only [hy]; omega) (by (repeat (first | exact agree_nil | (apply agree_cons; exact rfl)))) ⟨dgs_next hp hc, .inr ⟨_, _, _, rfl, hcap', hcl', hxl', htk', hs⟩⟩)
    · have hy00 : y = 0 := by omega
      subst hy00
      exact cutB_exit () (by (repeat (first | exact agree_nil | (apply agree_cons; exact rfl)))) ⟨v, xs, n, hp, hO⟩
  · rintro _ env w ⟨v, xs, n, hp, hO⟩
    clear hs
    rcases hO with ⟨rfl, hn, hx, hs⟩ | ⟨g, cap, cur, rfl, hcap, hcl, hxl, htk, hs⟩
    all_goals (
      repeat' (first|refine vs (k:=?_)|(refine stA hs (k:=?_);intro w hs)|refine qRg ?_|refine Nx.h ?_|fail)
      first | refine rt (hq := ?_) | refine rt' (hq := ?_)
      have hv : valD xs = X := by have := hp.sum; simpa using this
      have hd := own_dat (by first | exact .inl ⟨rfl, hn, hx, hs⟩ | exact .inr ⟨_, _, _, rfl, hcap, hcl, hxl, htk, hs⟩) hp.len.symm
      exact ⟨⟨false, _, xs, rfl, hd, hp.ok, hp.trim rfl, fun _ => rfl, by simp [sg, hv]⟩, hs.only0 rfl⟩)
end Go.Proofs.YtilajmcellffiaaGreatDoorX

namespace Go.Proofs.YtilajmcellffiaaGreatDoorX
open Go Go.RowKit
attribute [local irreducible] XS XC XA thenE blockE retE loopE loopS cutB cutN doneE SE
theorem BigAt.turned {w : World} {n : Bool} {sl : Value} {y : Int} (h : BigAt w (.agg #[.bool n, sl]) y) (hy : 0 < y) : BigAt w (.agg #[.bool true, sl]) (-y) := by
  obtain ⟨neg, sl', ds, e, hD, hok, ht, hz, rfl⟩ := h
  simp only [Value.agg.injEq, Array.mk.injEq, List.cons.injEq, Value.bool.injEq, and_true] at e
  obtain ⟨rfl, rfl⟩ := e
  have h0 := valD_nonneg hok
  cases n
  · refine ⟨true, sl, ds, rfl, hD, hok, ht, fun e => ?_, rfl⟩
    subst e; simp [sg, valD] at hy
  · simp only [sg, cond_true] at hy; omega
theorem bigN_ret (x : Int) (w0 : World) (h0 : -9223372036854775808 ≤ x) (h1 : x < 9223372036854775808) : Ret Tryz.prog 39 #[.int .i64 x] w0 fun v w' => BigAt w' v x ∧ Only [] w0 w' := by
  have hs := St.nil w0
  refine ret_of_xc Tryz.func39 (by kernel_rfl) rfl Tryz.ntmps39 rfl rfl rfl ?_
  repeat' (first|refine vs (k:=?_)|(refine al hs (k:=?_);intro b w hz hs)|refine qRg ?_|refine Nx.h ?_|(refine xc_if rfl (fun hc=>?_) (fun hc=>?_))|fail)
  · rw [show IntKind.u64.wrap x = x from wrap_small (by omega) (by omega)]
    (with_reducible apply xs_call); exact rfl; exact rfl; exact bigU_ret x _ (by omega) (by omega)
    rintro v w' ⟨hB, ho⟩; replace hs := hs.call0 ho
    obtain ⟨n1, a1, l1, c1, rfl⟩ := hB.shape
    obtain ⟨R, hs, hB⟩ := hB.read hs rfl
    repeat' (first|(refine stA hs (k:=?_);intro w hs)|refine Nx.h ?_|fail)
    first | refine rt (hq := ?_) | refine rt' (hq := ?_)
    exact ⟨hB _ (fun e he => hs.ro e (List.mem_append_left _ he)), hs.only0 rfl⟩
  · have e1 : IntKind.u64.wrap (IntKind.u64.wrap (IntKind.i64.wrap (0 - IntKind.i64.wrap (x + 1))) + 1) = -x := by simp only [wrap_u64, wrap_i64]; omega
    rw [e1]
    (with_reducible apply xs_call); exact rfl; exact rfl; exact bigU_ret (-x) _ (by omega) (by omega)
    rintro v w' ⟨hB, ho⟩; replace hs := hs.call0 ho
    obtain ⟨n1, a1, l1, c1, rfl⟩ := hB.shape
    obtain ⟨R, hs, hB⟩ := hB.read hs rfl
    repeat' (first|refine vs (k:=?_)|(refine st hs (k:=?_);intro w hs)|(refine stA hs (k:=?_);intro w hs)|(refine al hs (k:=?_);intro b w hz hs)|refine qRg ?_|refine Nx.h ?_|fail)
    first | refine rt (hq := ?_) | refine rt' (hq := ?_)
    refine ⟨?_, hs.only0 rfl⟩
    have h := (hB _ (fun e he => hs.ro e (List.mem_append_left _ he))).turned (by omega)
    rw [Int.neg_neg] at h
    exact h
end Go.Proofs.YtilajmcellffiaaGreatDoorX

namespace Go.Proofs.YtilajmcellffiaaGreatDoorX
open Go Go.RowKit
attribute [local irreducible] XS XC XA thenE blockE retE loopE loopS cutB cutN doneE SE
theorem InB.neg {x : Int} (h : InB x) : InB (-x) := ⟨by have := h.2; omega, by have := h.1; omega⟩
end Go.Proofs.YtilajmcellffiaaGreatDoorX

namespace Go.Proofs.YtilajmcellffiaaGreatDoorX
theorem valD_set : ∀ (ds : List Int) (j : Nat) (d : Int), j < ds.length → valD (ds.set j d) = valD ds + 10000 ^ j * (d - dig ds j)
  | [], _, _, h => absurd h (Nat.not_lt_zero _)
  | x :: ds, 0, d, _ => by simp [valD, dig]; omega
  | x :: ds, j + 1, d, h => by
    simp only [List.set_cons_succ, valD, valD_set ds j d (Nat.lt_of_succ_lt_succ h)]
    have : dig (x :: ds) (j + 1) = dig ds j := by simp [dig]
    rw [this, Int.pow_succ]
    grind
theorem DOk.set {ds : List Int} {j : Nat} {d : Int} (h : DOk ds) (h0 : 0 ≤ d) (h1 : d < 10000) : DOk (ds.set j d) := fun x hx => by
  rcases List.mem_or_eq_of_mem_set hx with hx | rfl
  · exact h x hx
  · exact ⟨h0, h1⟩
theorem dig_set_ne {ds : List Int} {j k : Nat} {d : Int} (h : j ≠ k) : dig (ds.set j d) k = dig ds k := by
  simp [dig, List.getD_eq_getElem?_getD, List.getElem?_set_ne h]
theorem valD_replicate (n : Nat) : valD (List.replicate n 0) = 0 := by
  induction n with
  | zero => rfl
  | succ n ih => simp [List.replicate_succ, valD, ih]
theorem DOk.replicate (n : Nat) : DOk (List.replicate n 0) := fun d hd => by rw [(List.mem_replicate.1 hd).2]; decide
structure MulO (A B O : List Int) (i : Nat) : Prop where
  len : O.length = A.length + B.length + 1
  ok : DOk O
  le : i ≤ A.length
  zero : ∀ j, i + B.length ≤ j → dig O j = 0
  sum : valD O = valD (A.take i) * valD B
structure MulI (A B O : List Int) (i k : Nat) (c : Int) : Prop where
  len : O.length = A.length + B.length + 1
  ok : DOk O
  lt : i < A.length
  kle : k ≤ B.length + 1
  c0 : 0 ≤ c
  c1 : c ≤ 9999
  last : B.length < k → c = 0
  zero : ∀ j, i + B.length < j → dig O j = 0
  zero' : k ≤ B.length → dig O (i + B.length) = 0
  sum : valD O + 10000 ^ (i + k) * c = valD (A.take i) * valD B + 10000 ^ i * dig A i * valD (B.take k)
theorem mul_in {A B O : List Int} {i : Nat} (h : MulO A B O i) (hi : i < A.length) : MulI A B O i 0 0 :=
  ⟨h.len, h.ok, hi, by omega, by decide, by decide, fun _ => rfl, fun j hj => h.zero j (by omega), fun _ => h.zero _ (by omega), by rw [h.sum]; simp [valD]⟩
theorem mul_out {A B O : List Int} {i k : Nat} {c : Int} (h : MulI A B O i k c) (h1 : B.length ≤ k) (h2 : ¬ 0 < c) : MulO A B O (i + 1) := by
  have hc : c = 0 := by have := h.c0; omega
  have hs := h.sum
  rw [hc, List.take_of_length_le h1] at hs
  refine ⟨h.len, h.ok, h.lt, fun j hj => h.zero j (by omega), ?_⟩
  rw [valD_take, Int.add_mul]
  simpa using hs
theorem mul_idx {A B O : List Int} {i k : Nat} {c : Int} (h : MulI A B O i k c) (hgo : k < B.length ∨ 0 < c) : i + k < O.length ∧ k ≤ B.length := by
  have h1 := h.len
  have h2 := h.lt
  have h3 := h.last
  have : k ≤ B.length := by
    rcases Nat.lt_or_ge B.length k with h4 | h4
    · have := h3 h4; omega
    · exact h4
  exact ⟨by omega, this⟩
theorem mul_next {A B O : List Int} {i k : Nat} {c s : Int} (hA : DOk A) (hB : DOk B) (h : MulI A B O i k c) (hgo : k < B.length ∨ 0 < c) (hs : s = dig O (i + k) + dig A i * dig B k + c) :
    0 ≤ s ∧ s ≤ 99999999 ∧ MulI A B (O.set (i + k) (s % 10000)) i (k + 1) (s / 10000) := by
  obtain ⟨hidx, hk⟩ := mul_idx h hgo
  obtain ⟨h1, h2, h3, h4, h5, h6, h7, h8, h9, h10⟩ := h
  have a1 := dig_rng hA i
  have b1 := dig_rng hB k
  have o1 := dig_rng h2 (i + k)
  have p0 : 0 ≤ dig A i * dig B k := Int.mul_nonneg a1.1 b1.1
  have p1 : dig A i * dig B k ≤ 9999 * 9999 := Int.mul_le_mul (by omega) (by omega) b1.1 (by decide)
  refine ⟨by omega, by omega, by simp [h1], h2.set (by omega) (by omega), h3, by omega, by omega, by omega, fun hl => ?_, fun j hj => ?_, fun hk' => ?_, ?_⟩
  · have hkb : k = B.length := by omega
    have e1 : dig B k = 0 := dig_ge (by omega)
    have e2 : dig O (i + k) = 0 := by rw [hkb]; exact h9 (by omega)
    rw [e1, e2] at hs
    omega
  · rw [dig_set_ne (by omega)]; exact h8 j hj
  · rw [dig_set_ne (by omega)]; exact h9 (by omega)
  · rw [valD_set _ _ _ hidx, valD_take]
    have e := Int.mul_ediv_add_emod s 10000
    have e2 : (10000 : Int) ^ (i + (k + 1)) = 10000 ^ (i + k) * 10000 := by rw [← Nat.add_assoc, Int.pow_succ]
    have e3 : (10000 : Int) ^ (i + k) = 10000 ^ i * 10000 ^ k := Int.pow_add ..
    generalize s / 10000 = q at *
    generalize s % 10000 = r at *
    rw [e2]
    rw [e3] at h10 ⊢
    subst hs
    grind
end Go.Proofs.YtilajmcellffiaaGreatDoorX

namespace Go.Proofs.YtilajmcellffiaaGreatDoorX
open Go Go.RowKit
attribute [local irreducible] XS XC XA thenE blockE retE loopE loopS cutB cutN doneE SE
theorem ints_get {O : List Int} {j : Nat} (h : j < O.length) : (ints O)[j]? = some (.int .i64 (dig O j)) := by simp [ints, dig, h]
theorem ints_set (O : List Int) (j : Nat) (d : Int) : (ints O).set j (.int .i64 d) = ints (O.set j d) := by simp [ints, List.map_set]
theorem ints_zero (n : Nat) : List.replicate n (Value.int .i64 0) = ints (List.replicate n 0) := by simp [ints]
set_option maxHeartbeats 2000000 in
theorem bigMul_ret (v u : Value) (x y : Int) (w0 : World) (hBx : BigAt w0 v x) (hBy : BigAt w0 u y) (hx : InB x) (hy : InB y) : Ret Tryz.prog 126 #[v, u] w0 fun v w' => BigAt w' v (x * y) ∧ Only [] w0 w' := by
  obtain ⟨na, sa, A, rfl, hDA, hA, tA, zA, rfl⟩ := hBx
  obtain ⟨nb, sb, B, rfl, hDB, hB0, tB, zB, rfl⟩ := hBy
  have lA : A.length ≤ 60 := len_in hA tA hx
  have lB : B.length ≤ 60 := len_in hB0 tB hy
  obtain ⟨ada, ca, rfl, hDA'⟩ := id hDA
  obtain ⟨adb, cb, rfl, hDB'⟩ := id hDB
  have hs := St.nil w0
  refine ret_of_xc Tryz.func126 (by kernel_rfl) rfl Tryz.ntmps126 rfl rfl rfl ?_
  refine xc_seq ?_
  refine xc_region ?_ ?_; exact rfl
  refine bx hs (k := ?_); intro b2 w hz hs
  refine bx hs (k := ?_); intro b3 w hz hs
  refine al hs (k := ?_); intro b4 w hz hs
  have eN : IntKind.i64.wrap (IntKind.i64.wrap ((A.length : Int) + (B.length : Nat)) + 1) = ((A.length + B.length + 1 : Nat) : Int) := by
    have e1 : IntKind.i64.wrap ((A.length : Int) + (B.length : Nat)) = (A.length : Int) + (B.length : Nat) := i64_small (by omega) (by omega)
    have e2 : (A.length : Int) + (B.length : Nat) + 1 = ((A.length + B.length + 1 : Nat) : Int) := by omega
    rw [e1, e2]
    exact i64_small (by omega) (by omega)
  repeat' (first|refine vs (k:=?_)|refine qRg ?_|refine Nx.h ?_|fail)
  rw [eN]
  refine mkS hs (hb := by omega) (hm := by omega) (k := ?_); intro b5 w hz hs
  rw [ints_zero] at hs
  repeat' (first|refine vs (k:=?_)|refine qRg ?_|refine Nx.h ?_|fail)
  refine xc_cutB (fun (_ : Unit) => [(2, .pointer (some ⟨b2, 0, none⟩)), (3, .pointer (some ⟨b3, 0, none⟩)), (4, .pointer (some ⟨b4, 0, none⟩)), (5, .slice (some ⟨b5, 0, none⟩) (A.length + B.length + 1) (A.length + B.length + 1))]) (fun _ w => ∃ O, MulO A B O A.length ∧ St w0 D0 [(b5, .cells (ints O).toArray 3, true), (b4, .cells #[.bool false, .slice none 0 0] 79, true), (b3, .cells #[.bool nb, .slice adb B.length cb] 79, true), (b2, .cells #[.bool na, .slice ada A.length ca] 79, true)] w) ?_ ?_
  · refine xc_loopS (fun (s : Nat × List Int) => [(2, .pointer (some ⟨b2, 0, none⟩)), (3, .pointer (some ⟨b3, 0, none⟩)), (4, .pointer (some ⟨b4, 0, none⟩)), (5, .slice (some ⟨b5, 0, none⟩) (A.length + B.length + 1) (A.length + B.length + 1)), (21, .slice ada A.length ca), (22, .int .i64 (A.length : Nat)), (23, .int .i64 (s.1 : Nat))])
      (fun s w => MulO A B s.2 s.1 ∧ St w0 D0 [(b5, .cells (ints s.2).toArray 3, true), (b4, .cells #[.bool false, .slice none 0 0] 79, true), (b3, .cells #[.bool nb, .slice adb B.length cb] 79, true), (b2, .cells #[.bool na, .slice ada A.length ca] 79, true)] w)
      (fun s => A.length - s.1) (0, List.replicate (A.length + B.length + 1) 0) (by (repeat (first | exact agree_nil | (apply agree_cons; exact rfl)))) ⟨⟨by simp, DOk.replicate _, by omega, fun j _ => by simp [dig, List.getD_eq_getElem?_getD, List.getElem?_replicate]; split <;> rfl, by rw [valD_replicate]; simp [valD]⟩, hs⟩ fun s env w hI => ?_
    clear hs
    obtain ⟨hp, hs⟩ := hI
    generalize hsi : s.1 = i at *
    generalize hsO : s.2 = O at *
    repeat' (first|refine vs (k:=?_)|refine qRg ?_|refine Nx.h ?_|(refine xc_if rfl (fun hc=>?_) (fun hc=>?_))|fail)
    · have hiA : i < A.length := by omega
      obtain ⟨b', off, cs, fz, rfl, h1, h2, h3⟩ := hDA' (by intro e; subst e; simp at hiA)
      refine ix (h0 := (by omega)) (h1 := hc) (k := ?_)
      refine lh (cs := cs) (off := off + ((i : Nat) : Int).toNat * 1) ((hs.only0 rfl).block h2 (by simp)) (v := .int .i64 (dig A i)) (by simpa using h3 i _ (dig_get hiA)) (k := ?_)
      repeat' (first|refine vs (k:=?_)|refine qRg ?_|refine Nx.h ?_|fail)
      have ei : IntKind.i64.wrap ((i : Int) + 1) = ((i + 1 : Nat) : Int) := by
        have e1 : (i : Int) + 1 = ((i + 1 : Nat) : Int) := by omega
        rw [e1]
        exact i64_small (by omega) (by omega)
      refine xc_cutB (fun (_ : Unit) => [(2, .pointer (some ⟨b2, 0, none⟩)), (3, .pointer (some ⟨b3, 0, none⟩)), (4, .pointer (some ⟨b4, 0, none⟩)), (5, .slice (some ⟨b5, 0, none⟩) (A.length + B.length + 1) (A.length + B.length + 1)), (21, .slice (some ⟨b', off, none⟩) A.length ca), (22, .int .i64 (A.length : Nat)), (23, .int .i64 (i : Nat))]) (fun _ w => ∃ O, MulO A B O (i + 1) ∧ St w0 D0 [(b5, .cells (ints O).toArray 3, true), (b4, .cells #[.bool false, .slice none 0 0] 79, true), (b3, .cells #[.bool nb, .slice adb B.length cb] 79, true), (b2, .cells #[.bool na, .slice (some ⟨b', off, none⟩) A.length ca] 79, true)] w) ?_ ?_
      · refine xc_loopS (fun (s : Nat × Int × List Int) => [(2, .pointer (some ⟨b2, 0, none⟩)), (3, .pointer (some ⟨b3, 0, none⟩)), (4, .pointer (some ⟨b4, 0, none⟩)), (5, .slice (some ⟨b5, 0, none⟩) (A.length + B.length + 1) (A.length + B.length + 1)), (21, .slice (some ⟨b', off, none⟩) A.length ca), (22, .int .i64 (A.length : Nat)), (23, .int .i64 (i : Nat)), (6, .int .i64 (i : Nat)), (7, .int .i64 (dig A i)), (8, .int .i64 s.2.1), (9, .int .i64 (s.1 : Nat))])
          (fun s w => MulI A B s.2.2 i s.1 s.2.1 ∧ St w0 D0 [(b5, .cells (ints s.2.2).toArray 3, true), (b4, .cells #[.bool false, .slice none 0 0] 79, true), (b3, .cells #[.bool nb, .slice adb B.length cb] 79, true), (b2, .cells #[.bool na, .slice (some ⟨b', off, none⟩) A.length ca] 79, true)] w)
          (fun s => B.length + 2 - s.1) (0, 0, O) (by (repeat (first | exact agree_nil | (apply agree_cons; exact rfl)))) ⟨mul_in hp hiA, hs⟩ fun s2 env w hI => ?_
        clear hs
        obtain ⟨hm, hs⟩ := hI
        generalize hsk : s2.1 = k at *
        generalize hsc : s2.2.1 = c at *
        generalize hsO2 : s2.2.2 = O2 at *
        refine xc_seq ?_
        refine xc_seq ?_
        refine xc_cutN (fun (_ : Unit) => [(2, .pointer (some ⟨b2, 0, none⟩)), (3, .pointer (some ⟨b3, 0, none⟩)), (4, .pointer (some ⟨b4, 0, none⟩)), (5, .slice (some ⟨b5, 0, none⟩) (A.length + B.length + 1) (A.length + B.length + 1)), (21, .slice (some ⟨b', off, none⟩) A.length ca), (22, .int .i64 (A.length : Nat)), (23, .int .i64 (i : Nat)), (6, .int .i64 (i : Nat)), (7, .int .i64 (dig A i)), (8, .int .i64 c), (9, .int .i64 (k : Nat)), (36, .bool (decide (k < B.length ∨ 0 < c)))]) (fun _ w' => w' = w) ?_ ?_
        · refine xc_region ?_ ?_; exact rfl
          refine vs (k := ?_)
          refine vs (k := ?_)
          refine vs (k := ?_)
          refine vs (k := ?_)
          refine vs (k := ?_)
          refine vs (k := ?_)
          refine xs_late 33 rfl ?_; intro c h33; cases c
          · repeat' (first|refine vs (k:=?_)|refine Nx.h ?_|fail)
            have e36 : decide (0 < c) = decide (k < B.length ∨ 0 < c) := by
              have h1 := of_decide_eq_false h33
              apply decide_eq_decide.2
              omega
            exact cutN_normal () (by (repeat (first | exact agree_nil | (apply agree_cons; first | exact rfl | exact congrArg Value.bool e36)))) rfl
          · repeat' (first|refine vs (k:=?_)|refine ps (k:=?_)|refine Nx.h ?_|fail)
            have e36 : true = decide (k < B.length ∨ 0 < c) := by
              have h1 := of_decide_eq_true h33
              exact (decide_eq_true (by omega)).symm
            exact cutN_normal () (by (repeat (first | exact agree_nil | (apply agree_cons; first | exact rfl | exact congrArg Value.bool e36)))) rfl
        rintro _ env _ rfl
        repeat' (first|refine Nx.h ?_|(refine xc_if rfl (fun hc=>?_) (fun hc=>?_))|fail)
        · obtain ⟨hs0, hs1, hnx⟩ := mul_next hA hB0 hm hc rfl
          obtain ⟨hidx, hkB⟩ := mul_idx hm hc
          have hlen := hm.len
          have hc0 := hm.c0
          have hc1 := hm.c1
          have a1 := dig_rng hA i
          have b1 := dig_rng hB0 k
          have o1 := dig_rng hm.ok (i + k)
          have p0 : 0 ≤ dig A i * dig B k := Int.mul_nonneg a1.1 b1.1
          have p1 : dig A i * dig B k ≤ 9999 * 9999 := Int.mul_le_mul (by omega) (by omega) b1.1 (by decide)
          have eik : IntKind.i64.wrap ((i : Int) + (k : Nat)) = ((i + k : Nat) : Int) := by
            have e1 : (i : Int) + (k : Nat) = ((i + k : Nat) : Int) := by omega
            rw [e1]
            exact i64_small (by omega) (by omega)
          have ek : IntKind.i64.wrap ((k : Int) + 1) = ((k + 1 : Nat) : Int) := by
            have e1 : (k : Int) + 1 = ((k + 1 : Nat) : Int) := by omega
            rw [e1]
            exact i64_small (by omega) (by omega)
          have eP : IntKind.i64.wrap (dig A i * dig B k) = dig A i * dig B k := i64_small (by omega) (by omega)
          have eQ : IntKind.i64.wrap (dig O2 (i + k) + dig A i * dig B k) = dig O2 (i + k) + dig A i * dig B k := i64_small (by omega) (by omega)
          have eR : IntKind.i64.wrap (dig O2 (i + k) + dig A i * dig B k + c) = dig O2 (i + k) + dig A i * dig B k + c := i64_small (by omega) (by omega)
          have hget : (ints O2)[0 + ((i + k : Nat) : Int).toNat * 1]? = some (.int .i64 (dig O2 (i + k))) := by
            have : 0 + ((i + k : Nat) : Int).toNat * 1 = i + k := by omega
            rw [this]
            exact ints_get hidx
          have hput : PutL (ints O2) (0 + ((i + k : Nat) : Int).toNat * 1) [.int .i64 ((dig O2 (i + k) + dig A i * dig B k + c) % 10000)] (ints (O2.set (i + k) ((dig O2 (i + k) + dig A i * dig B k + c) % 10000))) := by
            have : 0 + ((i + k : Nat) : Int).toNat * 1 = i + k := by omega
            rw [this, ← ints_set]
            exact putL_set (by simpa [ints] using hidx)
          refine dr [] hs (k := ?_); intro hX w hs
          refine tk 0 hX (k := ?_)
          refine tk 1 hX (k := ?_)
          refine tk 2 hX (k := ?_)
          refine tk 3 hX (k := ?_)
          rw [eik]
          refine tk 4 hX (hr := fun w' hH => r_indexAddr tabOk rfl rfl rfl (by omega) (by omega)) (k := ?_)
          refine tk 5 hX (v := .int .i64 (dig O2 (i + k))) (hr := fun w' hH => r_load tabOk rfl rfl (hH rfl) At.head hget) (k := ?_)
          refine tk 6 hX (k := ?_)
          refine tk 7 hX (k := ?_)
          refine tk 8 hX (k := ?_)
          refine tk 12 hX (k := ?_)
          refine dt 9 hX (k := ?_)
          (with_reducible apply xs_call); exact rfl; exact rfl; exact digit_ret nb _ B _ (hDB.only (hs.only0 rfl)) k
          rintro v w' ⟨rfl, ho⟩; replace hs := hs.call0 ho; repeat' (first|refine Nx.h ?_|fail)
          refine dn (k := ?_)
          refine tk 10 hX (k := ?_)
          rw [eP]
          refine tk 11 hX (k := ?_)
          rw [eQ]
          refine tk 13 hX (k := ?_)
          rw [eR]
          refine tk 14 hX (k := ?_)
          refine en (k := ?_)
          repeat' (first|refine vs (k:=?_)|refine qRg ?_|refine Nx.h ?_|fail)
          rw [eik]
          refine ix (h0 := (by omega)) (h1 := (by omega)) (k := ?_)
          refine st hs (hA := At.head) (hc := hput) (k := ?_); intro w hs
          repeat' (first|refine vs (k:=?_)|refine qRg ?_|refine Nx.h ?_|fail)
          exact loopS_next (k + 1, (dig O2 (i + k) + dig A i * dig B k + c) / 10000, O2.set (i + k) ((dig O2 (i + k) + dig A i * dig B k + c) % 10000)) (by simp only [hsk]; omega) (by (repeat (first | exact agree_nil | (apply agree_cons; first | exact rfl | exact congrArg (Value.int .i64) ek)))) ⟨hnx, hs⟩
        · exact cutB_exit () (by (repeat (first | exact agree_nil | (apply agree_cons; exact rfl)))) ⟨O2, mul_out hm (by omega) (by omega), hs⟩
      · rintro _ env w ⟨O2, hp2, hs⟩
        repeat' (first|refine vs (k:=?_)|refine qRg ?_|refine Nx.h ?_|fail)
        exact loopS_next (i + 1, O2) (by simp only [hsi]; omega) (by (repeat (first | exact agree_nil | (apply agree_cons; first | exact rfl | exact congrArg (Value.int .i64) ei)))) ⟨hp2, hs⟩
    · have hi : i = A.length := by have := hp.le; omega
      subst hi
      exact cutB_exit () (by (repeat (first | exact agree_nil | (apply agree_cons; exact rfl)))) ⟨O, hp, hs⟩
  · rintro _ env w ⟨O, hp, hs⟩
    have hd : DAt w (.slice (some ⟨b5, 0, none⟩) (A.length + B.length + 1) (A.length + B.length + 1)) O := by
      refine ⟨_, _, by rw [hp.len], fun _ => ⟨b5, 0, ints O, (0, 0), rfl, by rw [hp.len]; exact Nat.le_refl _, hs.get At.head, fun i d hi => by simp [ints, hi]⟩⟩
    repeat' (first|refine vs (k:=?_)|refine qRg ?_|refine Nx.h ?_|fail)
    (with_reducible apply xs_call); exact rfl; exact rfl; exact trim_ret (na != nb) _ O _ hd hp.ok (by rw [hp.len]; omega)
    rintro v w' ⟨hB, ho⟩; replace hs := hs.call0 ho
    obtain ⟨n1, a1, l1, c1, rfl⟩ := hB.shape
    replace hs := hs.forgetNew
    obtain ⟨R, hs, hB⟩ := hB.read hs rfl
    repeat' (first|(refine stA hs (k:=?_);intro w hs)|refine Nx.h ?_|fail)
    first | refine rt (hq := ?_) | refine rt' (hq := ?_)
    refine ⟨?_, hs.only0 rfl⟩
    have h := hB _ (fun e he => hs.ro e (List.mem_append_left _ he))
    have hsum := hp.sum
    rw [List.take_length] at hsum
    rw [hsum] at h
    have e : sg (na != nb) (valD A * valD B) = sg na (valD A) * sg nb (valD B) := by cases na <;> cases nb <;> simp [sg, Int.neg_mul, Int.mul_neg]
    rw [← e]
    exact h
end Go.Proofs.YtilajmcellffiaaGreatDoorX

namespace Go.Proofs.YtilajmcellffiaaGreatDoorX
open Go Go.RowKit
attribute [local irreducible] XS XC XA thenE blockE retE loopE loopS cutB cutN doneE SE
theorem inB_small {x : Int} (h0 : -1000000000000000000000000000000000000000000000000000000000000000000000000000000 ≤ x) (h1 : x ≤ 1000000000000000000000000000000000000000000000000000000000000000000000000000000) : InB x := by
  have : (1000000000000000000000000000000000000000000000000000000000000000000000000000000 : Int) < 10000 ^ 60 := by decide
  exact ⟨by omega, by omega⟩
set_option maxHeartbeats 1000000 in
theorem bigWide_ret (hi lo : Int) (h0 : -9223372036854775808 ≤ hi) (h1 : hi < 9223372036854775808) (h2 : 0 ≤ lo) (h3 : lo < 18446744073709551616) (w0 : World) : Ret Tryz.prog 88 #[.int .i64 hi, .int .u64 lo] w0 fun v w' => BigAt w' v (hi * 18446744073709551616 + lo) ∧ Only [] w0 w' := by
  have hs := St.nil w0
  refine ret_of_xc Tryz.func88 (by kernel_rfl) rfl Tryz.ntmps88 rfl rfl rfl ?_
  refine xc_seq ?_
  refine xc_region ?_ ?_; exact rfl
  refine al hs (k := ?_); intro b4 w hz hs
  repeat' (first|refine qRg ?_|refine Nx.h ?_|fail)
  (with_reducible apply xs_call); exact rfl; exact rfl; exact bigU_ret 4294967296 _ (by decide) (by decide)
  rintro v w' ⟨hB1, ho⟩; replace hs := hs.call0 ho
  skip
  (with_reducible apply xs_call); exact rfl; exact rfl; exact bigU_ret 4294967296 _ (by decide) (by decide)
  rintro v w' ⟨hB2, ho⟩; replace hs := hs.call0 ho
  skip
  (with_reducible apply xs_call); exact rfl; exact rfl; exact bigMul_ret _ _ 4294967296 4294967296 _ (hB1.only ho) hB2 (inB_small (by decide) (by decide)) (inB_small (by decide) (by decide))
  rintro v w' ⟨hB, ho⟩; replace hs := hs.call0 ho
  obtain ⟨n1, a1, l1, c1, rfl⟩ := hB.shape
  obtain ⟨R, hs, hB⟩ := hB.read hs rfl
  repeat' (first|(refine stA hs (k:=?_);intro w hs)|(refine al hs (k:=?_);intro b w hz hs)|refine Nx.h ?_|fail)
  refine dr [7] hs (k := ?_); intro hX w hs
  refine tk 0 hX (k := ?_)
  refine tk 2 hX (k := ?_)
  refine tk 4 hX (k := ?_)
  refine dt 1 hX (k := ?_)
  (with_reducible apply xs_call); exact rfl; exact rfl; exact bigN_ret hi _ h0 h1
  rintro v w' ⟨hN, ho⟩; replace hs := hs.call0 ho
  repeat' (first|refine Nx.h ?_|fail)
  refine dn (k := ?_)
  refine dt 3 hX (k := ?_)
  (with_reducible apply xs_call); exact rfl; exact rfl; exact bigMul_ret _ _ hi (4294967296 * 4294967296) _ hN (hB _ (fun e he => hs.ro e (List.mem_append_left _ he))) (inB_small (by omega) (by omega)) (inB_small (by decide) (by decide))
  rintro v w' ⟨hM, ho⟩; replace hs := hs.call0 ho
  repeat' (first|refine Nx.h ?_|fail)
  refine dn (k := ?_)
  refine dt 5 hX (k := ?_)
  (with_reducible apply xs_call); exact rfl; exact rfl; exact bigU_ret lo _ h2 h3
  rintro v w' ⟨hU, ho⟩; replace hs := hs.call0 ho
  repeat' (first|refine Nx.h ?_|fail)
  refine dn (k := ?_)
  refine dt 6 hX (k := ?_)
  (with_reducible apply xs_call); exact rfl; exact rfl; exact bigAdd_ret _ _ (hi * (4294967296 * 4294967296)) lo _ (hM.only ho) hU (inB_small (by omega) (by omega)) (inB_small (by omega) (by omega))
  rintro v w' ⟨hA, ho⟩; replace hs := hs.call0 ho
  obtain ⟨n2, a2, l2, c2, rfl⟩ := hA.shape
  obtain ⟨R2, hs, hA⟩ := hA.read hs rfl
  repeat' (first|refine Nx.h ?_|fail)
  refine dn (k := ?_)
  refine dt 7 hX (k := ?_)
  repeat' (first|(refine stA hs (k:=?_);intro w hs)|refine Nx.h ?_|fail)
  refine dn (k := ?_)
  refine en (k := ?_)
  repeat' (first|refine Nx.h ?_|fail)
  first | refine rt (hq := ?_) | refine rt' (hq := ?_)
  refine ⟨?_, hs.only0 rfl⟩
  have h := hA _ (fun e he => hs.ro e (List.mem_append_left _ he))
  exact h
theorem lawOf_ret (x : Int) (hx : InW x) (w0 : World) : Ret Tryz.prog 42 #[wv x] w0 fun v w' => BigAt w' v x ∧ Only [] w0 w' := by
  obtain ⟨hx1, hx2⟩ := hx
  have hs := St.nil w0
  refine ret_of_xc Tryz.func42 (by kernel_rfl) rfl Tryz.ntmps42 rfl rfl rfl ?_
  repeat' (first|refine vs (k:=?_)|(refine al hs (k:=?_);intro b w hz hs)|(refine bx hs (k:=?_);intro b w hz hs)|refine qRg ?_|refine Nx.h ?_|fail)
  (with_reducible apply xs_call); exact rfl; exact rfl; exact bigWide_ret _ _ (by omega) (by omega) (by omega) (by omega) _
  rintro v w' ⟨hB, ho⟩; replace hs := hs.call0 ho
  obtain ⟨n1, a1, l1, c1, rfl⟩ := hB.shape
  obtain ⟨R, hs, hB⟩ := hB.read hs rfl
  repeat' (first|(refine stA hs (k:=?_);intro w hs)|refine Nx.h ?_|fail)
  first | refine rt (hq := ?_) | refine rt' (hq := ?_)
  refine ⟨?_, hs.only0 rfl⟩
  have h := hB _ (fun e he => hs.ro e (List.mem_append_left _ he))
  rw [show x / 18446744073709551616 * 18446744073709551616 + x % 18446744073709551616 = x by omega] at h
  exact h
theorem inW_inB {x : Int} (h : InW x) : InB x := by obtain ⟨h1, h2⟩ := h; exact inB_small (by omega) (by omega)
end Go.Proofs.YtilajmcellffiaaGreatDoorX

namespace Go.Proofs.YtilajmcellffiaaGreatDoorX
open Go Go.RowKit
attribute [local irreducible] XS XC XA thenE blockE retE loopE loopS cutB cutN doneE SE
theorem BigAt.keep1 {w w' : World} {v : Value} {x : Int} (h : BigAt w v x) {b t : Nat} {cs : Array Value} {fz : Nat × Nat} (ho : Only [b] w w') (hb : w.heap[b]? = some (.cells cs t fz)) (ht : t ≠ 3) : BigAt w' v x := by
  obtain ⟨neg, sl, ds, h1, ⟨ad, cap, rfl, hD⟩, h3⟩ := h
  refine ⟨neg, _, ds, h1, ⟨ad, cap, rfl, fun hn => ?_⟩, h3⟩
  obtain ⟨b', off, cs', fz', e1, e2, e3, e4⟩ := hD hn
  refine ⟨b', off, cs', fz', e1, e2, ho.block e3 (fun hm => ?_), e4⟩
  obtain rfl := List.mem_singleton.1 hm
  rw [hb] at e3
  injection e3 with e3
  injection e3 with _ e5
  exact ht e5
theorem bigZero (w : World) : BigAt w (.agg #[.bool false, .slice none 0 0]) 0 := ⟨false, _, [], rfl, ⟨none, 0, rfl, fun h => absurd rfl h⟩, DOk.nil, by unfold Trim; simp, fun _ => rfl, rfl⟩
theorem c19core_ret (c : Cf) (k : Int) (w0 : World) : Ret Tryz.prog 33 #[cfv c, .int .i64 k] w0 fun v w' => v = .int .i64 (coreE c k) ∧ Only [] w0 w' := by
  have hs := St.nil w0
  refine ret_of_xc Tryz.func33 (by kernel_rfl) rfl Tryz.ntmps33 rfl rfl rfl ?_
  repeat' (first|refine Nx.h ?_|fail)
  refine xc_region ?_ ?_; exact rfl
  refine bx hs (k := ?_); clear hs; intro b w hz hs
  refine vs (k := ?_)
  repeat' (first|refine Nx.h ?_|fail)
  refine xc_region ?_ ?_; exact rfl
  refine vs (k := ?_)
  refine vs (k := ?_)
  rw [core_eq]
  by_cases c1 : k ≥ 0
  · rw [decide_eq_true c1]
    iterate 5 refine vs (k := ?_)
    by_cases c2 : k < c.cores
    · rw [decide_eq_true c2, if_pos ⟨c1, c2⟩]
      repeat' (first|refine vs (k:=?_)|refine qRg ?_|refine Nx.h ?_|refine qCt ?_|fail)
      first | refine rt (hq := ?_) | refine rt' (hq := ?_)
      exact ⟨rfl, hs.only0 rfl⟩
    · rw [decide_eq_false c2, if_neg (fun h => c2 h.2)]
      repeat' (first|refine vs (k:=?_)|refine qRg ?_|refine Nx.h ?_|refine qCf ?_|fail)
      first | refine rt (hq := ?_) | refine rt' (hq := ?_)
      exact ⟨rfl, hs.only0 rfl⟩
  · rw [decide_eq_false c1, if_neg (fun h => c1 h.1)]
    repeat' (first|refine vs (k:=?_)|refine ps (k:=?_)|refine qRg ?_|refine Nx.h ?_|refine qCf ?_|fail)
    first | refine rt (hq := ?_) | refine rt' (hq := ?_)
    exact ⟨rfl, hs.only0 rfl⟩
theorem c19within_ret (n e : Int) (w0 : World) : Ret Tryz.prog 35 #[.int .u64 n, .int .u64 e] w0 fun v w' => v = .int .i64 (withinE n e) ∧ Only [] w0 w' := by
  have hs := St.nil w0
  refine ret_of_xc Tryz.func35 (by kernel_rfl) rfl Tryz.ntmps35 rfl rfl rfl ?_
  repeat' (first|refine Nx.h ?_|fail)
  refine xc_region ?_ ?_; exact rfl
  refine vs (k := ?_)
  repeat' (first|refine Nx.h ?_|fail)
  refine xc_region ?_ ?_; exact rfl
  refine vs (k := ?_)
  refine vs (k := ?_)
  rw [within_eq]
  by_cases c1 : n ≥ 1
  · rw [decide_eq_true c1]
    iterate 4 refine vs (k := ?_)
    by_cases c2 : n ≤ e
    · rw [decide_eq_true c2, if_pos ⟨c1, c2⟩]
      repeat' (first|refine vs (k:=?_)|refine qRg ?_|refine Nx.h ?_|refine qCt ?_|fail)
      first | refine rt (hq := ?_) | refine rt' (hq := ?_)
      exact ⟨rfl, hs.only0 rfl⟩
    · rw [decide_eq_false c2, if_neg (fun h => c2 h.2)]
      repeat' (first|refine vs (k:=?_)|refine qRg ?_|refine Nx.h ?_|refine qCf ?_|fail)
      first | refine rt (hq := ?_) | refine rt' (hq := ?_)
      exact ⟨rfl, hs.only0 rfl⟩
  · rw [decide_eq_false c1, if_neg (fun h => c1 h.1)]
    repeat' (first|refine vs (k:=?_)|refine ps (k:=?_)|refine qRg ?_|refine Nx.h ?_|refine qCf ?_|fail)
    first | refine rt (hq := ?_) | refine rt' (hq := ?_)
    exact ⟨rfl, hs.only0 rfl⟩
set_option maxHeartbeats 4000000 in
theorem c19check_ret (c : Cf) (w0 : World) : Ret Tryz.prog 31 #[cfv c] w0 fun v w' => v = .int .i64 (checkF c) ∧ Only [] w0 w' := by
  have hs := St.nil w0
  refine ret_of_xc Tryz.func31 (by kernel_rfl) rfl Tryz.ntmps31 rfl rfl rfl ?_
  repeat' (first|refine Nx.h ?_|fail)
  refine xc_region ?_ ?_; exact rfl
  refine bx hs (k := ?_); clear hs; intro b w hz hs
  refine vs (k := ?_)
  repeat' (first|refine Nx.h ?_|fail)
  refine xc_region ?_ ?_; exact rfl
  rw [check_eq]
  iterate 3 refine vs (k := ?_)
  by_cases c1 : c.cores < 1
  · rw [decide_eq_true c1, if_pos (by omega)]
    repeat' (first|refine vs (k:=?_)|refine ps (k:=?_)|refine qRg ?_|refine Nx.h ?_|refine qCt ?_|fail)
    first | refine rt (hq := ?_) | refine rt' (hq := ?_)
    exact ⟨rfl, hs.only0 rfl⟩
  rw [decide_eq_false c1]
  iterate 4 refine vs (k := ?_)
  by_cases c2 : c.cores > 8
  · rw [decide_eq_true c2, if_pos (by omega)]
    repeat' (first|refine vs (k:=?_)|refine ps (k:=?_)|refine qRg ?_|refine Nx.h ?_|refine qCt ?_|fail)
    first | refine rt (hq := ?_) | refine rt' (hq := ?_)
    exact ⟨rfl, hs.only0 rfl⟩
  rw [decide_eq_false c2]
  iterate 5 refine vs (k := ?_)
  by_cases c3 : c.tasks < 1
  · rw [decide_eq_true c3, if_pos (by omega)]
    repeat' (first|refine vs (k:=?_)|refine ps (k:=?_)|refine qRg ?_|refine Nx.h ?_|refine qCt ?_|fail)
    first | refine rt (hq := ?_) | refine rt' (hq := ?_)
    exact ⟨rfl, hs.only0 rfl⟩
  rw [decide_eq_false c3]
  iterate 5 refine vs (k := ?_)
  by_cases c4 : c.tasks > 32
  · rw [decide_eq_true c4, if_pos (by omega)]
    repeat' (first|refine vs (k:=?_)|refine ps (k:=?_)|refine qRg ?_|refine Nx.h ?_|refine qCt ?_|fail)
    first | refine rt (hq := ?_) | refine rt' (hq := ?_)
    exact ⟨rfl, hs.only0 rfl⟩
  rw [decide_eq_false c4]
  iterate 5 refine vs (k := ?_)
  by_cases c5 : c.tick < 1
  · rw [decide_eq_true c5, if_pos (by omega)]
    repeat' (first|refine vs (k:=?_)|refine ps (k:=?_)|refine qRg ?_|refine Nx.h ?_|refine qCt ?_|fail)
    first | refine rt (hq := ?_) | refine rt' (hq := ?_)
    exact ⟨rfl, hs.only0 rfl⟩
  rw [decide_eq_false c5]
  iterate 5 refine vs (k := ?_)
  by_cases c6 : c.tick > 1099511627776
  · rw [decide_eq_true c6, if_pos (by omega)]
    repeat' (first|refine vs (k:=?_)|refine ps (k:=?_)|refine qRg ?_|refine Nx.h ?_|refine qCt ?_|fail)
    first | refine rt (hq := ?_) | refine rt' (hq := ?_)
    exact ⟨rfl, hs.only0 rfl⟩
  rw [decide_eq_false c6]
  iterate 5 refine vs (k := ?_)
  by_cases c7 : c.slice < 1
  · rw [decide_eq_true c7, if_pos (by omega)]
    repeat' (first|refine vs (k:=?_)|refine ps (k:=?_)|refine qRg ?_|refine Nx.h ?_|refine qCt ?_|fail)
    first | refine rt (hq := ?_) | refine rt' (hq := ?_)
    exact ⟨rfl, hs.only0 rfl⟩
  rw [decide_eq_false c7]
  iterate 5 refine vs (k := ?_)
  by_cases c8 : c.slice > 1099511627776
  · rw [decide_eq_true c8, if_pos (by omega)]
    repeat' (first|refine vs (k:=?_)|refine qRg ?_|refine Nx.h ?_|refine qCt ?_|fail)
    first | refine rt (hq := ?_) | refine rt' (hq := ?_)
    exact ⟨rfl, hs.only0 rfl⟩
  rw [decide_eq_false c8, if_neg (by omega)]
  repeat' (first|refine vs (k:=?_)|refine qRg ?_|refine Nx.h ?_|refine qCf ?_|fail)
  first | refine rt (hq := ?_) | refine rt' (hq := ?_)
  exact ⟨rfl, hs.only0 rfl⟩
end Go.Proofs.YtilajmcellffiaaGreatDoorX

namespace Go.Proofs.YtilajmcellffiaaGreatDoorX
open Go Go.RowKit
attribute [local irreducible] XS XC XA thenE blockE retE loopE loopS cutB cutN doneE SE
set_option maxHeartbeats 4000000 in
theorem c12window_ret (s t : Int) (hs' : U64 s) (ht : U64 t) (w0 : World) : Ret Tryz.prog 86 #[.int .u64 s, .int .u64 t] w0 fun v w' => (∃ u, v = .tuple #[u, .bool (winC s t).isSome] ∧ BigAt w' u ((winC s t).getD 0)) ∧ Only [] w0 w' := by
  obtain ⟨hs0, hs1⟩ := hs'
  obtain ⟨ht0, ht1⟩ := ht
  have hs := St.nil w0
  refine ret_of_xc Tryz.func86 (by kernel_rfl) rfl Tryz.ntmps86 rfl rfl rfl ?_
  repeat' (first|refine Nx.h ?_|fail)
  refine xc_region ?_ ?_; exact rfl
  refine al hs (k := ?_); clear hs; intro b4 w1 hz1 hs
  refine vs (k := ?_)
  repeat' (first|refine Nx.h ?_|fail)
  refine xc_region ?_ ?_; exact rfl
  iterate 2 refine vs (k := ?_)
  by_cases c1 : s < 1
  · rw [decide_eq_true c1, show winC s t = none from if_neg (by omega)]
    repeat' (first|refine vs (k:=?_)|refine ps (k:=?_)|(refine stA hs (k:=?_);intro w hs)|refine qRg ?_|refine Nx.h ?_|refine qCt ?_|fail)
    first | refine rt (hq := ?_) | refine rt' (hq := ?_)
    exact ⟨⟨_, rfl, bigZero _⟩, hs.only0 rfl⟩
  rw [decide_eq_false c1]
  iterate 3 refine vs (k := ?_)
  by_cases c2 : s > 1099511627776
  · rw [decide_eq_true c2, show winC s t = none from if_neg (by omega)]
    repeat' (first|refine vs (k:=?_)|refine ps (k:=?_)|(refine stA hs (k:=?_);intro w hs)|refine qRg ?_|refine Nx.h ?_|refine qCt ?_|fail)
    first | refine rt (hq := ?_) | refine rt' (hq := ?_)
    exact ⟨⟨_, rfl, bigZero _⟩, hs.only0 rfl⟩
  rw [decide_eq_false c2]
  iterate 4 refine vs (k := ?_)
  by_cases c3 : t < 1
  · rw [decide_eq_true c3, show winC s t = none from if_neg (by omega)]
    repeat' (first|refine vs (k:=?_)|refine ps (k:=?_)|(refine stA hs (k:=?_);intro w hs)|refine qRg ?_|refine Nx.h ?_|refine qCt ?_|fail)
    first | refine rt (hq := ?_) | refine rt' (hq := ?_)
    exact ⟨⟨_, rfl, bigZero _⟩, hs.only0 rfl⟩
  rw [decide_eq_false c3]
  iterate 4 refine vs (k := ?_)
  by_cases c4 : t > 1099511627776
  · rw [decide_eq_true c4, show winC s t = none from if_neg (by omega)]
    repeat' (first|refine vs (k:=?_)|(refine stA hs (k:=?_);intro w hs)|refine qRg ?_|refine Nx.h ?_|refine qCt ?_|fail)
    first | refine rt (hq := ?_) | refine rt' (hq := ?_)
    exact ⟨⟨_, rfl, bigZero _⟩, hs.only0 rfl⟩
  rw [decide_eq_false c4, show winC s t = some ((2 * s + t) * 1048576) from if_pos (by omega)]
  have ew : IntKind.u64.wrap (2 * s) = 2 * s := by rw [wrap_u64]; omega
  have i1 : InB (2 * s) := inB_small (by omega) (by omega)
  have i2 : InB t := inB_small (by omega) (by omega)
  have i3 : InB (2 * s + t) := inB_small (by omega) (by omega)
  have i4 : InB 1048576 := inB_small (by omega) (by omega)
  repeat' (first|refine vs (k:=?_)|refine qRg ?_|refine Nx.h ?_|refine qCf ?_|fail)
  (with_reducible apply xs_call); exact rfl; exact rfl; exact bigU_ret (IntKind.u64.wrap (2 * s)) _ (by rw [ew]; omega) (by rw [ew]; omega)
  rw [ew]
  rintro v1 w2 ⟨hB1, ho1⟩; replace hs := hs.call0 ho1
  refine vs (k := ?_)
  (with_reducible apply xs_call); exact rfl; exact rfl; exact bigU_ret t _ ht0 ht1
  rintro v2 w3 ⟨hB2, ho2⟩; replace hs := hs.call0 ho2
  (with_reducible apply xs_call); exact rfl; exact rfl; exact bigAdd_ret v1 v2 _ _ _ (hB1.only ho2) hB2 i1 i2
  rintro v3 w4 ⟨hB3, ho3⟩; replace hs := hs.call0 ho3
  (with_reducible apply xs_call); exact rfl; exact rfl; exact bigU_ret 1048576 _ (by omega) (by omega)
  rintro v4 w5 ⟨hB4, ho4⟩; replace hs := hs.call0 ho4
  (with_reducible apply xs_call); exact rfl; exact rfl; exact bigMul_ret v3 v4 _ _ _ (hB3.only ho4) hB4 i3 i4
  rintro v5 w6 ⟨hB5, ho5⟩; replace hs := hs.call0 ho5
  obtain ⟨n1, a1, l1, c1', rfl⟩ := hB5.shape
  have hoP := hs.only0 rfl
  have q4 := hs.get (b := b4) (by repeat (first | exact At.head | (with_reducible apply At.tail)))
  have g4 := hs.new (b4, true) (by simp) rfl
  simp only at g4
  have hs := hs.rebase
  simp only [List.map_cons, List.map_nil] at hs
  refine stA hs (k := ?_); clear hs; intro w7 hs
  have ho7 := hs.onlyF [b4] (by simp) (by simp [D0])
  repeat' (first|refine vs (k:=?_)|refine Nx.h ?_|fail)
  first | refine rt (hq := ?_) | refine rt' (hq := ?_)
  exact ⟨⟨_, rfl, hB5.keep1 ho7 q4 (by decide)⟩, hoP.step ho7 (fun k hk => .inr (by obtain rfl := List.mem_singleton.1 hk; exact g4))⟩
theorem max0 {u : Int} : (u < 0 → max u 0 = 0) ∧ (¬ u < 0 → max u 0 = u) := by omega
set_option maxHeartbeats 8000000 in
theorem c12clamp_ret (v u : Value) (x y : Int) (hx : InW x) (hy : In64 y) (w0 : World) (hBx : BigAt w0 v x) (hBy : BigAt w0 u y) : Ret Tryz.prog 87 #[v, u] w0 fun v w' => BigAt w' v (clampW x y) ∧ Only [] w0 w' := by
  obtain ⟨n1, a1, l1, c1, rfl⟩ := hBx.shape
  obtain ⟨n2, a2, l2, c2, rfl⟩ := hBy.shape
  have hiy : InB y := by unfold In64 at hy; exact inB_small (by omega) (by omega)
  have hs := St.nil w0
  refine ret_of_xc Tryz.func87 (by kernel_rfl) rfl Tryz.ntmps87 rfl rfl rfl ?_
  repeat' (first|refine Nx.h ?_|fail)
  refine xc_region ?_ ?_; exact rfl
  refine bx hs (k := ?_); clear hs; intro b2 w1 hz1 hs
  refine bx hs (k := ?_); clear hs; intro b3 w2 hz2 hs
  refine al hs (k := ?_); clear hs; intro b4 w3 hz3 hs
  have g4 := hs.new (b4, true) (by simp) rfl
  have g3 := hs.new (b3, true) (by simp) rfl
  simp only at g4 g3
  have nd := hs.nd
  obtain ⟨n23, n24, n34⟩ : b2 ≠ b3 ∧ b2 ≠ b4 ∧ b3 ≠ b4 := by
    simp only [List.map_cons, List.map_nil, List.nodup_cons, List.mem_cons, List.not_mem_nil, or_false, not_or] at nd
    exact ⟨fun e => nd.2.1 e.symm, fun e => nd.1.2 e.symm, fun e => nd.1.1 e.symm⟩
  clear nd
  have eC : clampW x y = if x > max y 0 then max y 0 else if x < -(max y 0) then -(max y 0) else x := rfl
  have hmy : 0 ≤ max y 0 ∧ max y 0 < 9223372036854775808 := by unfold In64 at hy; omega
  refine XS.nil ?_
  refine then_of ?_
  refine xc_seq ?_
  refine xc_cutN (fun (_ : Bool × Option Addr × Nat × Nat) => [(2, .pointer (some ⟨b2, 0, none⟩)), (3, .pointer (some ⟨b3, 0, none⟩)), (4, .pointer (some ⟨b4, 0, none⟩))])
    (fun s w => BigAt w (.agg #[.bool s.1, .slice s.2.1 s.2.2.1 s.2.2.2]) (max y 0) ∧ w.heap[b3]? = some (.cells #[.bool s.1, .slice s.2.1 s.2.2.1 s.2.2.2] 79 (0, 0)) ∧ w.heap[b2]? = some (.cells #[.bool n1, .slice a1 l1 c1] 79 (0, 0)) ∧ w.heap[b4]? = some (.cells #[.bool false, .slice none 0 0] 79 (0, 0)) ∧ Only [] w0 w) ?_ ?_
  · refine xc_seq ?_
    repeat' (first|refine vs (k:=?_)|refine qRg ?_|fail)
    (with_reducible apply xs_call); exact rfl; exact rfl; exact bigSign_ret _ y _ (hBy.only (hs.only0 rfl))
    rintro v w4 ⟨rfl, ho4⟩; replace hs := hs.call0 ho4
    by_cases hn : y < 0
    · rw [cmpI_neg hn]
      repeat' (first|refine vs (k:=?_)|(refine stA hs (k:=?_);intro w hs)|refine qRg ?_|refine Nx.h ?_|refine qCt ?_|fail)
      exact cutN_normal (false, none, 0, 0) (by (repeat (first | exact agree_nil | (apply agree_cons; exact rfl)))) ⟨by rw [max0.1 hn]; exact bigZero _, hs.get (b := b3) (by repeat (first | exact At.head | (with_reducible apply At.tail))), hs.get (b := b2) (by repeat (first | exact At.head | (with_reducible apply At.tail))), hs.get (b := b4) (by repeat (first | exact At.head | (with_reducible apply At.tail))), hs.only0 rfl⟩
    · refine vs (k := ?_)
      rw [decide_eq_false (fun h => hn (cmp_neg.1 h))]
      repeat' (first|refine Nx.h ?_|refine qCf ?_|fail)
      exact cutN_normal (n2, a2, l2, c2) (by (repeat (first | exact agree_nil | (apply agree_cons; exact rfl)))) ⟨by rw [max0.2 hn]; exact hBy.only (hs.only0 rfl), hs.get (b := b3) (by repeat (first | exact At.head | (with_reducible apply At.tail))), hs.get (b := b2) (by repeat (first | exact At.head | (with_reducible apply At.tail))), hs.get (b := b4) (by repeat (first | exact At.head | (with_reducible apply At.tail))), hs.only0 rfl⟩
  clear hs
  rintro ⟨n3, a3, l3, c3⟩ env w5 ⟨hM, k3, k2, k4, hoA⟩
  simp only at hM k3
  generalize max y 0 = m at *
  have him : InB m := inB_small (by omega) (by omega)
  have hix : InB x := inW_inB hx
  have hXx := hBx.only hoA
  have hs := (((St.nil w5).track k2 (by simp)).track k3 (by simpa using Ne.symm n23)).track k4 (by simpa using ⟨Ne.symm n34, Ne.symm n24⟩)
  repeat' (first|refine vs (k:=?_)|refine qRg ?_|refine Nx.h ?_|fail)
  have ho6 := hs.onlyF [] (by simp [k2, k3, k4]) (by simp [D0])
  (with_reducible apply xs_call); exact rfl; exact rfl; exact bigCmp_ret _ _ x m _ (hXx.only ho6) (hM.only ho6) hix him
  rintro v w6 ⟨rfl, ho7⟩; replace hs := hs.call0 ho7
  refine vs (k := ?_)
  by_cases h : m < x
  · rw [if_pos (show x > m from h)] at eC
    rw [decide_eq_true (show cmpI x m > 0 from cmp_pos.2 h), eC]
    repeat' (first|refine vs (k:=?_)|(refine stA hs (k:=?_);intro w hs)|refine qRg ?_|refine Nx.h ?_|refine qCt ?_|fail)
    first | refine rt (hq := ?_) | refine rt' (hq := ?_)
    have hoZ := hs.onlyF [b4] (by simp [k2, k3]) (by simp [D0])
    exact ⟨hM.keep1 hoZ k4 (by decide), hoA.step hoZ (fun k hk => .inr (by obtain rfl := List.mem_singleton.1 hk; exact g4))⟩
  rw [if_neg (show ¬ x > m from h)] at eC
  rw [decide_eq_false (show ¬ cmpI x m > 0 from fun k => h (cmp_pos.1 k))]
  repeat' (first|refine Nx.h ?_|refine qCf ?_|fail)
  refine dr [] hs (k := ?_); intro hX w hs
  refine tk 0 hX (k := ?_)
  refine tk 1 hX (k := ?_)
  refine dt 2 hX (k := ?_)
  have ho8 := hs.onlyF [] (by simp [k2, k3, k4]) (by simp [D0])
  (with_reducible apply xs_call); exact rfl; exact rfl; exact bigNeg_ret _ m _ (hM.only ho8) him
  rintro v w8 ⟨hN, ho9⟩; replace hs := hs.call0 ho9
  refine XS.nil ?_
  refine dn (k := ?_)
  refine dt 3 hX (k := ?_)
  have ho10 := hs.onlyF [] (by simp [k2, k3, k4]) (by simp [D0])
  (with_reducible apply xs_call); exact rfl; exact rfl; exact bigCmp_ret _ v x (-m) _ (hXx.only ho10) hN hix him.neg
  rintro v2 w9 ⟨rfl, ho11⟩; replace hs := hs.call0 ho11
  refine XS.nil ?_
  refine dn (k := ?_)
  refine tk 4 hX (k := ?_)
  refine en (k := ?_)
  by_cases h2 : x < -m
  · rw [if_pos h2] at eC
    rw [decide_eq_true (show cmpI x (-m) < 0 from cmp_neg.2 h2), eC]
    repeat' (first|refine vs (k:=?_)|refine qRg ?_|refine Nx.h ?_|refine qCt ?_|fail)
    have ho12 := hs.onlyF [] (by simp [k2, k3, k4]) (by simp [D0])
    (with_reducible apply xs_call); exact rfl; exact rfl; exact bigNeg_ret _ m _ (hM.only ho12) him
    rintro v3 w10 ⟨hN2, ho13⟩
    obtain ⟨n5, a5, l5, c5, rfl⟩ := hN2.shape
    have j4 := (ho12.trans ho13).block k4 (by simp)
    have j3 := (ho12.trans ho13).block k3 (by simp)
    clear hs
    have hs := ((St.nil w10).track j3 (by simp)).track j4 (by simpa using Ne.symm n34)
    repeat' (first|(refine stA hs (k:=?_);intro w hs)|refine Nx.h ?_|fail)
    first | refine rt (hq := ?_) | refine rt' (hq := ?_)
    have hoZ := hs.onlyF [b4] (by simp [j3]) (by simp [D0])
    exact ⟨hN2.keep1 hoZ j4 (by decide), ((hoA.trans ho12).trans ho13).step hoZ (fun k hk => .inr (by obtain rfl := List.mem_singleton.1 hk; exact g4))⟩
  · rw [if_neg h2] at eC
    rw [decide_eq_false (show ¬ cmpI x (-m) < 0 from fun k => h2 (cmp_neg.1 k)), eC]
    repeat' (first|refine vs (k:=?_)|(refine stA hs (k:=?_);intro w hs)|refine qRg ?_|refine Nx.h ?_|refine qCf ?_|fail)
    first | refine rt (hq := ?_) | refine rt' (hq := ?_)
    have hoZ := hs.onlyF [b4] (by simp [k2, k3]) (by simp [D0])
    exact ⟨hXx.keep1 hoZ k4 (by decide), hoA.step hoZ (fun k hk => .inr (by obtain rfl := List.mem_singleton.1 hk; exact g4))⟩
set_option maxHeartbeats 4000000 in
theorem c19keep_ret (c : Cf) (v : Value) (x s : Int) (hc : c.In) (hx : InW x) (hs0 : U64 s) (w0 : World) (hB : BigAt w0 v x) : Ret Tryz.prog 41 #[cfv c, v, .int .u64 s] w0 fun v w' => BigAt w' v (keepF c x s) ∧ Only [] w0 w' := by
  obtain ⟨n1, a1, l1, c1, rfl⟩ := hB.shape
  have hs := St.nil w0
  refine ret_of_xc Tryz.func41 (by kernel_rfl) rfl Tryz.ntmps41 rfl rfl rfl ?_
  repeat' (first|refine Nx.h ?_|fail)
  refine xc_region ?_ ?_; exact rfl
  refine bx hs (k := ?_); clear hs; intro b3 w1 hz1 hs
  refine bx hs (k := ?_); clear hs; intro b4 w2 hz2 hs
  refine al hs (k := ?_); clear hs; intro b6 w3 hz3 hs
  have g6 := hs.new (b6, true) (by simp) rfl
  simp only at g6
  repeat' (first|refine vs (k:=?_)|refine qRg ?_|refine Nx.h ?_|fail)
  (with_reducible apply xs_call); exact rfl; exact rfl; exact c12window_ret s c.tick hs0 hc.2.2.1 _
  rintro v w4 ⟨⟨u, rfl, hW⟩, ho4⟩; replace hs := hs.call0 ho4
  obtain ⟨n2, a2, l2, c2, rfl⟩ := hW.shape
  have hin := winC_in s c.tick
  have eK : keepF c x s = clampW x ((winC s c.tick).getD 0) := rfl
  cases e : winC s c.tick with
  | none =>
    rw [keep_none e]
    repeat' (first|refine vs (k:=?_)|(refine stA hs (k:=?_);intro w hs)|(refine al hs (k:=?_);intro b w hz hs)|refine qRg ?_|refine Nx.h ?_|refine qCt ?_|fail)
    first | refine rt (hq := ?_) | refine rt' (hq := ?_)
    exact ⟨bigZero _, hs.only0 rfl⟩
  | some m =>
    rw [e] at hW hin eK
    rw [eK]
    have hoP := hs.only0 rfl
    have q3 := hs.get (b := b3) (by repeat (first | exact At.head | (with_reducible apply At.tail)))
    have q4 := hs.get (b := b4) (by repeat (first | exact At.head | (with_reducible apply At.tail)))
    have q6 := hs.get (b := b6) (by repeat (first | exact At.head | (with_reducible apply At.tail)))
    have hX := hB.only hoP
    have hs := hs.rebase
    simp only [List.map_cons, List.map_nil] at hs
    repeat' (first|refine vs (k:=?_)|(refine stA hs (k:=?_);intro w hs)|(refine al hs (k:=?_);intro b w hz hs)|refine qRg ?_|refine Nx.h ?_|refine qCf ?_|fail)
    have ho5 := hs.onlyF [] (by simp [q3, q4, q6]) (by simp [D0])
    (with_reducible apply xs_call); exact rfl; exact rfl; exact c12clamp_ret _ _ x m hx hin _ (hX.only ho5) (hW.only ho5)
    rintro v w6 ⟨hC, ho6⟩
    obtain ⟨n7, a7, l7, c7, rfl⟩ := hC.shape
    have j6 := (ho5.trans ho6).block q6 (by simp)
    clear hs
    have hs := (St.nil w6).track j6 (by simp)
    repeat' (first|(refine stA hs (k:=?_);intro w hs)|refine Nx.h ?_|fail)
    first | refine rt (hq := ?_) | refine rt' (hq := ?_)
    have hoZ := hs.onlyF [b6] (by simp) (by simp [D0])
    exact ⟨hC.keep1 hoZ j6 (by decide), ((hoP.trans ho5).trans ho6).step hoZ (fun k hk => .inr (by obtain rfl := List.mem_singleton.1 hk; exact g6))⟩
end Go.Proofs.YtilajmcellffiaaGreatDoorX

namespace Go.Proofs.YtilajmcellffiaaGreatDoorX
open Go Go.RowKit
attribute [local irreducible] XS XC XA thenE blockE retE loopE loopS cutB cutN doneE SE
set_option maxHeartbeats 16000000 in
theorem limitsAsk_ret (c : Cf) (k n x : Int) (hc : c.In) (hk : In64 k) (hn : U64 n) (hx : InW x) (w0 : World) (ht : Pows w0) : Ret Tryz.prog 6 #[cfv c, .int .i64 k, .int .u64 n, wv x] w0 fun v w' => v = .bool true ∧ Only [] w0 w' := by
  have hs := St.nil w0
  have hkf : In64 (keepF c x n) := clampW_in (winC_in n c.tick)
  have hib : InB (keepF c x n) := by have := hkf; unfold In64 at this; exact inB_small (by omega) (by omega)
  have e1 : (checkF c == checkF c) = true := by simp
  have e2 : (coreE c k == coreE c k) = true := by simp
  have e3 : (withinE n 1048576 == withinE n 1048576) = true := by simp
  have e4 : (withinE n (capN c.slice) == withinE n (capN c.slice)) = true := by simp
  have e5 : (withinE n (capN c.tick) == withinE n (capN c.tick)) = true := by simp
  have e6 : (cmpI (keepF c x n) (keepF c x n) == 0) = true := by rw [cmp_self]; rfl
  refine ret_of_xc Tryz.func6 (by kernel_rfl) rfl Tryz.ntmps6 rfl rfl rfl ?_
  repeat' (first|refine vs (k:=?_)|(refine bx hs (k:=?_);intro b w hz hs)|refine qRg ?_|refine Nx.h ?_|fail)
  (with_reducible apply xs_call); exact rfl; exact rfl; exact awake19_ret _ (tab_only ht (hs.only0 rfl))
  rintro v w' ⟨rfl, ho⟩; replace hs := hs.call0 ho; repeat' (first|refine vs (k:=?_)|(refine stA hs (k:=?_);intro w hs)|(refine al hs (k:=?_);intro b w hz hs)|refine qRg ?_|refine Nx.h ?_|refine qCf ?_|fail)
  refine dr [] hs (k := ?_); intro hX w hs
  refine tk 0 hX (k := ?_)
  refine tk 2 hX (k := ?_)
  refine dt 1 hX (k := ?_)
  (with_reducible apply xs_call); exact rfl; exact rfl; exact check_ret c hc _
  rintro v w' ⟨rfl, ho⟩; replace hs := hs.call0 ho; repeat' (first|refine Nx.h ?_|fail)
  refine dn (k := ?_)
  refine dt 3 hX (k := ?_)
  (with_reducible apply xs_call); exact rfl; exact rfl; exact c19check_ret c _
  rintro v w' ⟨rfl, ho⟩; replace hs := hs.call0 ho; repeat' (first|refine Nx.h ?_|fail)
  refine dn (k := ?_)
  refine tk 4 hX (k := ?_)
  refine xa_set 17 (v := .bool true) (congrArg Value.bool e1) ?_
  refine tk 5 hX (k := ?_)
  refine tk 6 hX (k := ?_)
  refine tk 7 hX (k := ?_)
  refine tk 9 hX (k := ?_)
  refine tk 10 hX (k := ?_)
  refine dt 8 hX (k := ?_)
  (with_reducible apply xs_call); exact rfl; exact rfl; exact ccore_ret c k _
  rintro v w' ⟨rfl, ho⟩; replace hs := hs.call0 ho; repeat' (first|refine Nx.h ?_|fail)
  refine dn (k := ?_)
  refine dt 11 hX (k := ?_)
  (with_reducible apply xs_call); exact rfl; exact rfl; exact c19core_ret c k _
  rintro v w' ⟨rfl, ho⟩; replace hs := hs.call0 ho; repeat' (first|refine Nx.h ?_|fail)
  refine dn (k := ?_)
  refine tk 12 hX (k := ?_)
  refine xa_set 25 (v := .bool true) (congrArg Value.bool e2) ?_
  refine tk 13 hX (k := ?_)
  refine tk 14 hX (k := ?_)
  refine tk 15 hX (k := ?_)
  refine tk 16 hX (k := ?_)
  refine tk 18 hX (k := ?_)
  refine dt 17 hX (k := ?_)
  (with_reducible apply xs_call); exact rfl; exact rfl; exact cfweight_ret c n _
  rintro v w' ⟨rfl, ho⟩; replace hs := hs.call0 ho; repeat' (first|refine Nx.h ?_|fail)
  refine dn (k := ?_)
  refine dt 19 hX (k := ?_)
  (with_reducible apply xs_call); exact rfl; exact rfl; exact c19within_ret n 1048576 _
  rintro v w' ⟨rfl, ho⟩; replace hs := hs.call0 ho; repeat' (first|refine Nx.h ?_|fail)
  refine dn (k := ?_)
  refine tk 20 hX (k := ?_)
  refine xa_set 33 (v := .bool true) (congrArg Value.bool e3) ?_
  refine tk 21 hX (k := ?_)
  refine tk 22 hX (k := ?_)
  refine tk 23 hX (k := ?_)
  refine tk 24 hX (k := ?_)
  refine tk 26 hX (k := ?_)
  refine tk 27 hX (k := ?_)
  refine tk 28 hX (k := ?_)
  refine tk 29 hX (k := ?_)
  refine dt 25 hX (k := ?_)
  (with_reducible apply xs_call); exact rfl; exact rfl; exact crequest_ret c n _
  rintro v w' ⟨rfl, ho⟩; replace hs := hs.call0 ho; repeat' (first|refine Nx.h ?_|fail)
  refine dn (k := ?_)
  refine dt 30 hX (k := ?_)
  (with_reducible apply xs_call); exact rfl; exact rfl; exact c19within_ret n (capN c.slice) _
  rintro v w' ⟨rfl, ho⟩; replace hs := hs.call0 ho; repeat' (first|refine Nx.h ?_|fail)
  refine dn (k := ?_)
  refine tk 31 hX (k := ?_)
  refine xa_set 44 (v := .bool true) (congrArg Value.bool e4) ?_
  refine tk 32 hX (k := ?_)
  refine tk 33 hX (k := ?_)
  refine tk 34 hX (k := ?_)
  refine tk 35 hX (k := ?_)
  refine tk 37 hX (k := ?_)
  refine tk 38 hX (k := ?_)
  refine tk 39 hX (k := ?_)
  refine tk 40 hX (k := ?_)
  refine dt 36 hX (k := ?_)
  (with_reducible apply xs_call); exact rfl; exact rfl; exact ctime_ret c n _
  rintro v w' ⟨rfl, ho⟩; replace hs := hs.call0 ho; repeat' (first|refine Nx.h ?_|fail)
  refine dn (k := ?_)
  refine dt 41 hX (k := ?_)
  (with_reducible apply xs_call); exact rfl; exact rfl; exact c19within_ret n (capN c.tick) _
  rintro v w' ⟨rfl, ho⟩; replace hs := hs.call0 ho; repeat' (first|refine Nx.h ?_|fail)
  refine dn (k := ?_)
  refine tk 42 hX (k := ?_)
  refine xa_set 55 (v := .bool true) (congrArg Value.bool e5) ?_
  refine tk 43 hX (k := ?_)
  refine tk 44 hX (k := ?_)
  refine tk 45 hX (k := ?_)
  refine tk 46 hX (k := ?_)
  refine tk 47 hX (k := ?_)
  refine tk 50 hX (k := ?_)
  refine tk 51 hX (k := ?_)
  refine tk 53 hX (k := ?_)
  refine dt 48 hX (k := ?_)
  (with_reducible apply xs_call); exact rfl; exact rfl; exact keep_ret c x n hc hx hn _
  rintro v w' ⟨rfl, ho⟩; replace hs := hs.call0 ho; repeat' (first|refine Nx.h ?_|fail)
  refine dn (k := ?_)
  refine dt 49 hX (k := ?_)
  (with_reducible apply xs_call); exact rfl; exact rfl; exact bigN_ret (keepF c x n) _ hkf.1 (by have := hkf.2; omega)
  rintro v1 w1 ⟨hB1, ho1⟩; replace hs := hs.call0 ho1
  repeat' (first|refine Nx.h ?_|fail)
  refine dn (k := ?_)
  refine dt 52 hX (k := ?_)
  (with_reducible apply xs_call); exact rfl; exact rfl; exact lawOf_ret x hx _
  rintro v2 w2 ⟨hB2, ho2⟩; replace hs := hs.call0 ho2
  repeat' (first|refine Nx.h ?_|fail)
  refine dn (k := ?_)
  refine dt 54 hX (k := ?_)
  (with_reducible apply xs_call); exact rfl; exact rfl; exact c19keep_ret c v2 x n hc hx hn _ hB2
  rintro v3 w3 ⟨hB3, ho3⟩; replace hs := hs.call0 ho3
  repeat' (first|refine Nx.h ?_|fail)
  refine dn (k := ?_)
  refine dt 55 hX (k := ?_)
  (with_reducible apply xs_call); exact rfl; exact rfl; exact bigCmp_ret v1 v3 _ _ _ ((hB1.only ho2).only ho3) hB3 hib hib
  rintro v w' ⟨rfl, ho⟩; replace hs := hs.call0 ho; repeat' (first|refine Nx.h ?_|fail)
  refine dn (k := ?_)
  refine tk 56 hX (k := ?_)
  refine xa_set 69 (v := .bool true) (congrArg Value.bool e6) ?_
  refine tk 57 hX (k := ?_)
  refine tk 58 hX (k := ?_)
  refine en (k := ?_)
  repeat' (first|refine Nx.h ?_|fail)
  first | refine rt (hq := ?_) | refine rt' (hq := ?_)
  exact ⟨rfl, hs.only0 rfl⟩
end Go.Proofs.YtilajmcellffiaaGreatDoorX

namespace Go.Proofs.YtilajmcellffiaaGreatDoor
open Go
theorem pf_laid : laidOutB Tryz.prog = true := by kernel_rfl
theorem pf_maps : mapsRowed Tryz.prog = true := by kernel_rfl
theorem pf_keys : (true == Tryz.prog.plainKeys) = true := by kernel_rfl
theorem pf_heard : Tryz.prog.stopsHeard = true := by kernel_rfl
theorem pf_enter : Tryz.prog.mayEnter = true := by kernel_rfl
theorem pf_lift : (false == Tryz.prog.liftsFinal) = true := by kernel_rfl
theorem pf_make : (Tryz.prog.make == some .cut) = true := by kernel_rfl
theorem and_mk {a b : Bool} (h : a = true) (k : b = true) : (a && b) = true := by rw [h, k]; rfl
end Go.Proofs.YtilajmcellffiaaGreatDoor

namespace Go.Proofs.YtilajmcellffiaaGreatDoorX
open Go
theorem door_met (os : Os) (args : Array Value) : laidMetH Tryz.prog [("math/bits.deBruijn32tab", YtilajmcellffiaaGreatDoor.Rows.laid_math_bits_deBruijn32tab), ("math/bits.deBruijn64tab", YtilajmcellffiaaGreatDoor.Rows.laid_math_bits_deBruijn64tab), ("internal/strconv.uint64pow10", YtilajmcellffiaaGreatDoor.Rows.laid_internal_strconv_uint64pow10)] ((World.doorLaid Tryz.prog 24 os).forCall (fun _ _ => 0) ⟨#[], args, []⟩).memory :=
  laidMetH_of_parts3 (fuel := 8) (laidMet_of_run' 8 (by kernel_rfl) (by kernel_rfl)) (by kernel_rfl) (by kernel_rfl)
theorem pows_of {W : World} (h : laidMetH Tryz.prog [("math/bits.deBruijn32tab", YtilajmcellffiaaGreatDoor.Rows.laid_math_bits_deBruijn32tab), ("math/bits.deBruijn64tab", YtilajmcellffiaaGreatDoor.Rows.laid_math_bits_deBruijn64tab), ("internal/strconv.uint64pow10", YtilajmcellffiaaGreatDoor.Rows.laid_internal_strconv_uint64pow10)] W) : Pows W := by
  rw [MakeChecks.laidMetH_plain _ _ _ (by kernel_rfl)] at h
  have h2 := h.tail.tail
  exact Lib.tabIs_of_head (g := (Tryz.prog.globalNamed "internal/strconv.uint64pow10").getD 0) (t := 314) (e := 22) (n := 20) (by kernel_rfl) (by kernel_rfl) (by kernel_rfl) (by kernel_rfl) (by kernel_rfl) (by kernel_rfl) h2
end Go.Proofs.YtilajmcellffiaaGreatDoorX

namespace Go.Proofs.YtilajmcellffiaaGreatDoorX
open Go Go.RowKit Go.ChangeShapes Go.WideShapes Go.ChangeAt
set_option maxRecDepth 100000 in
theorem limitsAsk_lifted (os : Os) (started : os.Started) (H : Type) (enc : TypeId × Value → H) :
    ReturnsInHanded {} Tryz.checked os 6 .any (fun w args => (YtilajmcellffiaaGreatDoor.Rows.limitsAskSpec.pre enc Tryz.prog Tryz.f6 [] false w args ∧ laidMetH Tryz.prog [("math/bits.deBruijn32tab", YtilajmcellffiaaGreatDoor.Rows.laid_math_bits_deBruijn32tab), ("math/bits.deBruijn64tab", YtilajmcellffiaaGreatDoor.Rows.laid_math_bits_deBruijn64tab), ("internal/strconv.uint64pow10", YtilajmcellffiaaGreatDoor.Rows.laid_internal_strconv_uint64pow10)] w) ∧ sizedMet enc Tryz.prog Tryz.f6 (OpenSpec.ofChange YtilajmcellffiaaGreatDoor.Rows.limitsAskSpec) false w args) (YtilajmcellffiaaGreatDoor.Rows.limitsAskSpec.post enc Tryz.prog Tryz.f6 false true false false) := by
  refine returnsInHanded_of_change_and (C := Tryz.checked) (X := fun w _ => laidMetH Tryz.prog [("math/bits.deBruijn32tab", YtilajmcellffiaaGreatDoor.Rows.laid_math_bits_deBruijn32tab), ("math/bits.deBruijn64tab", YtilajmcellffiaaGreatDoor.Rows.laid_math_bits_deBruijn64tab), ("internal/strconv.uint64pow10", YtilajmcellffiaaGreatDoor.Rows.laid_internal_strconv_uint64pow10)] w) (fun _ _ _ hh h => h.of_heap hh) own started (by kernel_rfl) Tryz.func6
    (ChangeSpec.witness_shaped (enc := enc) (C := Tryz.checked) (os := os) (X := fun w _ => laidMetH Tryz.prog [("math/bits.deBruijn32tab", YtilajmcellffiaaGreatDoor.Rows.laid_math_bits_deBruijn32tab), ("math/bits.deBruijn64tab", YtilajmcellffiaaGreatDoor.Rows.laid_math_bits_deBruijn64tab), ("internal/strconv.uint64pow10", YtilajmcellffiaaGreatDoor.Rows.laid_internal_strconv_uint64pow10)] w) false (World.doorLaid Tryz.prog 24 os) #[.agg #[.int .i64 0, .int .i64 0, .int .u64 0, .int .u64 0, .int .u64 0], .int .i64 0, .int .u64 0, .agg #[.int .i64 0, .int .u64 0]] 8 rfl (World.shaped_of_RefB (by kernel_rfl) (by kernel_rfl)) (by kernel_rfl) (by kernel_rfl) (by kernel_rfl) (door_met os _)) ?_
  intro W base args ds gs before hval0 hW hcnd hsz0 hL _
  have hP := pows_of hL
  have hval : ∀ (j : Nat) t v, Tryz.f6.params[j]? = some t → args[j]? = some v → Value.okWide Tryz.prog W .any base t v := hval0
  have hW' := hW
  obtain ⟨p, q, hA0, hV, rfl, hfz, hnd⟩ := hW
  have hA : DataW.TrodAll enc Tryz.prog W 0 (fun _ => true) true Tryz.f6.params.toList args.toList ds p := hA0
  rw [Tryz.params6] at hA hval
  obtain ⟨v0, vs0, d0, ds0, p0, q0, hargs, rfl, rfl, h0, r0⟩ := trodAll_cons hA
  obtain ⟨v1, vs1, d1, ds1, p1, q1, rfl, rfl, rfl, h1, r1⟩ := trodAll_cons r0
  obtain ⟨v2, vs2, d2, ds2, p2, q2, rfl, rfl, rfl, h2, r2⟩ := trodAll_cons r1
  obtain ⟨v3, vs3, d3, ds3, p3, q3, rfl, rfl, rfl, h3, r3⟩ := trodAll_cons r2
  obtain ⟨rfl, rfl, rfl⟩ := trodAll_nil r3
  obtain rfl : args = #[v0, v1, v2, v3] := by cases args; simp_all
  obtain ⟨rfl, rfl⟩ := trodVars_none hV
  have lt0 : ∀ x ∈ p0, x.block < W.heap.size := by obtain ⟨m, hm⟩ := h0; exact DataW.trod_lt m _ _ _ hm
  have k0 := h0
  obtain ⟨x0, hx0, rfl⟩ := open_cfg (hval 0 _ v0 rfl rfl) k0
  have lt1 : ∀ x ∈ p1, x.block < W.heap.size := by obtain ⟨m, hm⟩ := h1; exact DataW.trod_lt m _ _ _ hm
  have k1 := h1
  obtain ⟨x1, rfl, _, _, w1⟩ := open_int (t := 3) (k := .i64) (by kernel_rfl) (hval 1 _ v1 rfl rfl) k1
  have b1 : (-9223372036854775808 : Int) ≤ x1 ∧ x1 < 9223372036854775808 := by
    have h := int_of w1
    have e1 : IntKind.i64.min = -9223372036854775808 := rfl
    have e2 : IntKind.i64.max = 9223372036854775807 := rfl
    omega
  have lt2 : ∀ x ∈ p2, x.block < W.heap.size := by obtain ⟨m, hm⟩ := h2; exact DataW.trod_lt m _ _ _ hm
  have k2 := h2
  obtain ⟨x2, rfl, _, _, w2⟩ := open_int (t := 22) (k := .u64) (by kernel_rfl) (hval 2 _ v2 rfl rfl) k2
  have b2 : (0 : Int) ≤ x2 ∧ x2 < 18446744073709551616 := by
    have h := int_of w2
    have e1 : IntKind.u64.min = 0 := rfl
    have e2 : IntKind.u64.max = 18446744073709551615 := rfl
    omega
  have lt3 : ∀ x ∈ p3, x.block < W.heap.size := by obtain ⟨m, hm⟩ := h3; exact DataW.trod_lt m _ _ _ hm
  have k3 := h3
  obtain ⟨x3, hx3, rfl⟩ := open_wide (hval 3 _ v3 rfl rfl) k3
  clear hA0 hval0 hsz0
  refine (ret_calls (by kernel_rfl) (limitsAsk_ret x0 x1 x2 x3 hx0 b1 b2 hx3 W hP)).mono fun e W' ⟨v, he, hv, ho⟩ => ?_
  subst he hv
  have bel := ho.below
  exact ⟨_, rfl, _, _, _, [], _, [], hW', trodAll_mk1 (shut_bool (by kernel_rfl) _), (trodAll_cons_mk (Below.trod laidOut (by kernel_rfl) (of_decide_eq_true (by kernel_rfl)) h0 bel lt0) (trodAll_cons_mk (Below.trod laidOut (by kernel_rfl) (of_decide_eq_true (by kernel_rfl)) h1 bel lt1) (trodAll_cons_mk (Below.trod laidOut (by kernel_rfl) (of_decide_eq_true (by kernel_rfl)) h2 bel lt2) (trodAll_cons_mk (Below.trod laidOut (by kernel_rfl) (of_decide_eq_true (by kernel_rfl)) h3 bel lt3) trodAll_mk0)))), rfl, bel.frame _, fun h => by cases h⟩
end Go.Proofs.YtilajmcellffiaaGreatDoorX
namespace Go.Proofs.YtilajmcellffiaaGreatDoor
open Go Go.RowKit Go.ChangeShapes Go.WideShapes Go.ChangeAt
theorem limitsAsk_nm : Tryz.prog.funcNamed "turnstone/turnstonelaw19.LimitsAsk" = some 6 := by kernel_rfl
theorem limitsAsk_ip : (Rows.limitsAskRow.inPlace == Tryz.prog.inPlace 6) = true := by kernel_rfl
theorem limitsAsk_un : (Rows.limitsAskRow.unfollowed == Tryz.prog.unfollowed 6) = true := by kernel_rfl
theorem limitsAsk_rc : (Rows.limitsAskRow.recurses == Tryz.prog.recurses 6) = true := by kernel_rfl
theorem limitsAsk_nd : (Rows.limitsAskRow.named == Tryz.prog.varsNamed 6) = true := by kernel_rfl
theorem limitsAsk_holds : Rows.LimitsAskSaid :=
  OpenClaim.holds_of_wide 6 Tryz.f6 rfl rfl rfl rfl rfl rfl rfl ⟨rfl, rfl, rfl, rfl, rfl⟩ rfl rfl rfl rfl rfl limitsAsk_nm Tryz.func6
    (by unfold joinedFacts; exact (and_mk (and_mk (and_mk (and_mk (and_mk (and_mk (and_mk (and_mk (and_mk (and_mk (and_mk (and_mk (and_mk (and_mk (and_mk (and_mk (and_mk (and_mk (and_mk (and_mk (and_mk (and_mk (and_mk (and_mk (and_mk (and_mk (and_mk (and_mk (and_mk (and_mk (and_mk (by kernel_rfl) pf_laid) pf_maps) (by kernel_rfl)) (by kernel_rfl)) (by kernel_rfl)) (by kernel_rfl)) (by kernel_rfl)) (by kernel_rfl)) limitsAsk_ip) limitsAsk_un) limitsAsk_rc) limitsAsk_nd) (by kernel_rfl)) (by kernel_rfl)) (by kernel_rfl)) (by kernel_rfl)) (by kernel_rfl)) (by kernel_rfl)) (by kernel_rfl)) (by kernel_rfl)) (by kernel_rfl)) pf_keys) (by kernel_rfl)) pf_heard) pf_enter) pf_lift) pf_make) (by kernel_rfl)) (by kernel_rfl)) (by kernel_rfl)) (by kernel_rfl)))
    (of_decide_eq_true (by kernel_rfl)) (by unfold Func.isWrapper; first | (rw [if_pos (by decide +kernel)]; kernel_rfl) | (rw [if_neg (by decide +kernel)]; exact ⟨rfl, rfl⟩))
    (fun os started H enc _ => YtilajmcellffiaaGreatDoorX.limitsAsk_lifted os started H enc)
theorem limitsAsk_w : Rows.limitsAskRow.wfByText (OpenSpec.ofChange Rows.limitsAskSpec) = true := by kernel_rfl
theorem limitsAsk_mn : Tryz.prog.mainIs = some (Rows.limitsAskCard.stood.harness.1, Rows.limitsAskCard.stood.harness.2.toList) := by kernel_rfl
theorem limitsAsk_lk : Rows.limitsAskCard.stood.looks = Tryz.prog.looks [] := by kernel_rfl
theorem limitsAsk_gs : false = Rows.limitsAskRow.goesBy Tryz.prog := by kernel_rfl
theorem limitsAsk_card : Rows.LimitsAskCardSaid :=
  Claim7.holds_tied_plain_at .later [] [.data, .data, .data] true Rows.limitsAskCard.stood.harness Rows.limitsAskCard.stood.looks
    limitsAsk_holds (fun _ h => by cases h) limitsAsk_w (fun _ h => by cases h) limitsAsk_row_tie rfl ⟨rfl, rfl⟩ limitsAsk_mn rfl
    (fun f fn hf hfn => by
      obtain rfl : f = 6 := Option.some.inj (limitsAsk_nm.symm.trans hf) |>.symm
      obtain rfl : fn = Tryz.f6 := (Option.some.inj (Tryz.func6.symm.trans hfn)).symm
      exact ⟨limitsAsk_lk, fun j t ht => by
        rw [Tryz.params6] at ht
        have hm : t ∈ [68, 3, 22, 61] := by simpa using Array.mem_of_getElem? ht
        have hall : ([68, 3, 22, 61].all fun u => !Tryz.prog.wantsStandIn u) = true := by kernel_rfl
        exact (show Tryz.prog.wantsStandIn t = false by simpa using List.all_eq_true.1 hall t hm)⟩)
    limitsAsk_gs
end Go.Proofs.YtilajmcellffiaaGreatDoor
