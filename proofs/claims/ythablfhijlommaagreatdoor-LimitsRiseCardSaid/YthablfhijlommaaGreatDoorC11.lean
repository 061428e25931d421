/- Proved: what may be asked for may be with greater limits, too; for any two configurations, any core and any number -/
import Derived.Test.YthablfhijlommaaGreatDoorC10
import Derived.Test.YthablfhijlommaaGreatDoorRows
import Derived.JoinedOf
import Derived.Test.YthablfhijlommaaGreatDoorTie
import Derived.Lib.LaidTab
import Derived.Stop.LaidErr
import Derived.MakeChecks
import Derived.LaidMore
import Derived.LaidLaws
import Derived.Test.YthablfhijlommaaGreatDoorCards
import Derived.SevenTiedAt
set_option linter.unusedVariables false
set_option linter.unusedSimpArgs false
set_option maxRecDepth 100000
namespace Go.Proofs.YthablfhijlommaaGreatDoorX
open Go Go.RowKit
attribute [local irreducible] XS XC XA thenE blockE retE loopE loopS cutB cutN doneE SE
structure Cf where
  cores : Int
  tasks : Int
  tick : Int
  slice : Int
  origin : Int
def cfv (c : Cf) : Value := .agg #[.int .i64 c.cores, .int .i64 c.tasks, .int .u64 c.tick, .int .u64 c.slice, .int .u64 c.origin]
def Cf.In (c : Cf) : Prop := In64 c.cores ∧ In64 c.tasks ∧ U64 c.tick ∧ U64 c.slice ∧ U64 c.origin
def withinE (n e : Int) : Int := if n < 1 ∨ n > e then 3 else 0
theorem lwithin_ret (n e : Int) (w0 : World) : Ret Tryz.prog 56 #[.int .u64 n, .int .u64 e] w0 fun v w' => v = .int .i64 (withinE n e) ∧ Only [] w0 w' := by
  have hs := St.nil w0
  refine ret_of_xc Tryz.func56 (by kernel_rfl) rfl Tryz.ntmps56 rfl rfl rfl ?_
  repeat' (first|refine Nx.h ?_|fail)
  refine xc_region ?_ ?_; exact rfl
  refine vs (k := ?_)
  repeat' (first|refine Nx.h ?_|fail)
  refine xc_region ?_ ?_; exact rfl
  refine vs (k := ?_)
  refine vs (k := ?_)
  unfold withinE
  by_cases c1 : n < 1
  · rw [decide_eq_true c1, if_pos (.inl c1)]
    repeat' (first|refine vs (k:=?_)|refine ps (k:=?_)|refine qRg ?_|refine Nx.h ?_|refine qCt ?_|fail)
    first | refine rt (hq := ?_) | refine rt' (hq := ?_)
    exact ⟨rfl, hs.only0 rfl⟩
  rw [decide_eq_false c1]
  refine vs (k := ?_)
  refine vs (k := ?_)
  refine vs (k := ?_)
  refine vs (k := ?_)
  by_cases c2 : n > e
  · rw [decide_eq_true c2, if_pos (.inr c2)]
    repeat' (first|refine vs (k:=?_)|refine qRg ?_|refine Nx.h ?_|refine qCt ?_|fail)
    first | refine rt (hq := ?_) | refine rt' (hq := ?_)
    exact ⟨rfl, hs.only0 rfl⟩
  rw [decide_eq_false c2, if_neg (by omega)]
  repeat' (first|refine vs (k:=?_)|refine qRg ?_|refine Nx.h ?_|refine qCf ?_|fail)
  first | refine rt (hq := ?_) | refine rt' (hq := ?_)
  exact ⟨rfl, hs.only0 rfl⟩
def LsX (w : World) (k : Nat) (v : Value) (xs : List (List Value)) : Prop :=
  ∃ ad cap, v = .slice ad xs.length cap ∧ (xs ≠ [] → ∃ (b off : Nat) (cs : List Value) (E : TypeId) (fz : Nat × Nat), ad = some ⟨b, off, none⟩ ∧ w.heap[b]? = some (.cells cs.toArray E fz) ∧ ∀ (i : Nat) x, xs[i]? = some x → Pick cs (off + i * k) k x)
theorem LsX.only {w w' : World} {k : Nat} {v : Value} {xs : List (List Value)} (h : LsX w k v xs) (ho : Only [] w w') : LsX w' k v xs := by
  obtain ⟨ad, cap, rfl, h⟩ := h
  refine ⟨ad, cap, rfl, fun hn => ?_⟩
  obtain ⟨b, off, cs, E, fz, h1, h2, h3⟩ := h hn
  exact ⟨b, off, cs, E, fz, h1, ho.block h2 (by simp), h3⟩
theorem LsAt.x {w : World} {E k : Nat} {v : Value} {xs : List (List Value)} (h : LsAt w E k v xs) : LsX w k v xs := by
  obtain ⟨ad, cap, rfl, h⟩ := h
  refine ⟨ad, cap, rfl, fun hn => ?_⟩
  obtain ⟨b, off, cs, fz, h1, _, h2, h3⟩ := h hn
  exact ⟨b, off, cs, E, fz, h1, h2, h3⟩
def errR (e : Int) : List Value := [.int .i64 e]
def allE : List Int → Int
  | [] => 0
  | e :: l => if e ≠ 0 then e else allE l
theorem allE_drop {l : List Int} {i : Nat} (h : i < l.length) : allE (l.drop i) = if l[i] ≠ 0 then l[i] else allE (l.drop (i + 1)) := by rw [List.drop_eq_getElem_cons h]; rfl
set_option maxHeartbeats 4000000 in
theorem all_ret (l : List Int) (sl : Value) (hm : l.length ≤ 9223372036854775807) (w0 : World) (hL : LsX w0 1 sl (l.map errR)) : Ret Tryz.prog 14 #[sl] w0 fun v w' => v = .int .i64 (allE l) ∧ Only [] w0 w' := by
  obtain ⟨ad, cap, rfl, hD⟩ := hL
  rw [List.length_map] at *
  have hs := St.nil w0
  refine ret_of_xc Tryz.func14 (by kernel_rfl) rfl Tryz.ntmps14 rfl rfl rfl ?_
  repeat' (first|refine vs (k:=?_)|refine qRg ?_|refine Nx.h ?_|fail)
  refine xc_cutB (fun (_ : Unit) => []) (fun _ w => allE l = 0 ∧ Only [] w0 w) ?_ ?_
  · refine xc_loopS (fun (i : Nat) => [(5, .slice ad l.length cap), (6, .int .i64 (l.length : Nat)), (7, .int .i64 (i : Nat))]) (fun i w => i ≤ l.length ∧ allE (l.drop i) = allE l ∧ Only [] w0 w) (fun i => l.length - i) 0 (by (repeat (first | exact agree_nil | (apply agree_cons; exact rfl)))) ⟨Nat.zero_le _, by rw [List.drop_zero], hs.only0 rfl⟩ fun i env wl ⟨hi, he, ho0⟩ => ?_
    clear hs
    have hs := St.nil wl
    repeat' (first|refine vs (k:=?_)|refine qRg ?_|refine Nx.h ?_|(refine xc_if rfl (fun hc=>?_) (fun hc=>?_))|fail)
    · have hlt : i < l.length := by omega
      obtain ⟨b, off, cs, E, fz, rfl, hb, hcs⟩ := hD (fun h => by have := congrArg List.length h; rw [List.length_map, List.length_nil] at this; omega)
      have hpk := hcs i (errR l[i]) (by rw [List.getElem?_map, List.getElem?_eq_getElem hlt]; rfl)
      have ei := nx64 (m := l.length) hlt hm
      rw [allE_drop hlt] at he
      generalize l[i] = q at *
      refine ix (h0 := (by omega)) (h1 := (by omega)) (k := ?_)
      refine lh (ho0.block hb (by simp)) (by cases hpk; assumption) (k := ?_)
      by_cases hq : q = 0
      · subst hq
        rw [if_neg (by simp)] at he
        repeat' (first|refine vs (k:=?_)|refine qRg ?_|refine Nx.h ?_|refine qCf ?_|fail)
        exact loopS_next (i + 1) (by show l.length - (i + 1) < l.length - i; omega) (by (repeat (first | exact agree_nil | (apply agree_cons; first | exact rfl | exact congrArg (Value.int .i64) ei)))) ⟨by show i + 1 ≤ _; omega, he, ho0.trans (hs.only0 rfl)⟩
      · rw [if_pos hq] at he
        repeat' (first|refine vs (k:=?_)|refine qRg ?_|refine Nx.h ?_|(refine xc_cond rfl (fun hc=>?_) (fun hc=>?_))|fail)
        · first | refine rt (hq := ?_) | refine rt' (hq := ?_)
          exact ⟨by rw [← he]; rfl, ho0.trans (hs.only0 rfl)⟩
        · exact absurd (by simpa using hc) hq
    · have e : i = l.length := by omega
      subst e
      rw [List.drop_length] at he
      exact cutB_exit () (by (repeat (first | exact agree_nil | (apply agree_cons; exact rfl)))) ⟨he.symm, ho0⟩
  · rintro _ env w ⟨he, ho0⟩
    clear hs
    have hs := St.nil w
    repeat' (first|refine vs (k:=?_)|refine qRg ?_|refine Nx.h ?_|fail)
    first | refine rt (hq := ?_) | refine rt' (hq := ?_)
    exact ⟨by rw [he]; rfl, ho0.trans (hs.only0 rfl)⟩
def coreE (c : Cf) (k : Int) : Int := if k < 0 ∨ k ≥ c.cores then 5 else 0
theorem ccore_ret (c : Cf) (k : Int) (w0 : World) : Ret Tryz.prog 15 #[cfv c, .int .i64 k] w0 fun v w' => v = .int .i64 (coreE c k) ∧ Only [] w0 w' := by
  have hs := St.nil w0
  refine ret_of_xc Tryz.func15 (by kernel_rfl) rfl Tryz.ntmps15 rfl rfl rfl ?_
  repeat' (first|refine Nx.h ?_|fail)
  refine xc_region ?_ ?_; exact rfl
  refine bx hs (k := ?_); intro b w hz hs
  refine vs (k := ?_)
  repeat' (first|refine Nx.h ?_|fail)
  refine xc_region ?_ ?_; exact rfl
  refine vs (k := ?_)
  refine vs (k := ?_)
  unfold coreE
  by_cases c1 : k < 0
  · rw [decide_eq_true c1, if_pos (.inl c1)]
    repeat' (first|refine vs (k:=?_)|refine ps (k:=?_)|refine qRg ?_|refine Nx.h ?_|refine qCt ?_|fail)
    first | refine rt (hq := ?_) | refine rt' (hq := ?_)
    exact ⟨rfl, hs.only0 rfl⟩
  rw [decide_eq_false c1]
  refine vs (k := ?_)
  refine vs (k := ?_)
  refine vs (k := ?_)
  refine vs (k := ?_)
  refine vs (k := ?_)
  by_cases c2 : c.cores ≤ k
  · rw [decide_eq_true c2, if_pos (.inr c2)]
    repeat' (first|refine vs (k:=?_)|refine qRg ?_|refine Nx.h ?_|refine qCt ?_|fail)
    first | refine rt (hq := ?_) | refine rt' (hq := ?_)
    exact ⟨rfl, hs.only0 rfl⟩
  rw [decide_eq_false c2, if_neg (by omega)]
  repeat' (first|refine vs (k:=?_)|refine qRg ?_|refine Nx.h ?_|refine qCf ?_|fail)
  first | refine rt (hq := ?_) | refine rt' (hq := ?_)
  exact ⟨rfl, hs.only0 rfl⟩
def capN (n : Int) : Int := if 1099511627776 < n then 1099511627776 else n
theorem crequest_ret (c : Cf) (n : Int) (w0 : World) : Ret Tryz.prog 16 #[cfv c, .int .u64 n] w0 fun v w' => v = .int .i64 (withinE n (capN c.slice)) ∧ Only [] w0 w' := by
  have hs := St.nil w0
  refine ret_of_xc Tryz.func16 (by kernel_rfl) rfl Tryz.ntmps16 rfl rfl rfl ?_
  repeat' (first|refine vs (k:=?_)|(refine bx hs (k:=?_);intro b w hz hs)|refine qRg ?_|refine Nx.h ?_|fail)
  (with_reducible apply xs_call); exact rfl; exact rfl; exact lwithin_ret n (capN c.slice) _
  rintro v w' ⟨rfl, ho⟩; replace hs := hs.call0 ho; repeat' (first|refine vs (k:=?_)|refine Nx.h ?_|fail)
  first | refine rt (hq := ?_) | refine rt' (hq := ?_)
  exact ⟨rfl, hs.only0 rfl⟩
theorem ctime_ret (c : Cf) (n : Int) (w0 : World) : Ret Tryz.prog 17 #[cfv c, .int .u64 n] w0 fun v w' => v = .int .i64 (withinE n (capN c.tick)) ∧ Only [] w0 w' := by
  have hs := St.nil w0
  refine ret_of_xc Tryz.func17 (by kernel_rfl) rfl Tryz.ntmps17 rfl rfl rfl ?_
  repeat' (first|refine vs (k:=?_)|(refine bx hs (k:=?_);intro b w hz hs)|refine qRg ?_|refine Nx.h ?_|fail)
  (with_reducible apply xs_call); exact rfl; exact rfl; exact lwithin_ret n (capN c.tick) _
  rintro v w' ⟨rfl, ho⟩; replace hs := hs.call0 ho; repeat' (first|refine vs (k:=?_)|refine Nx.h ?_|fail)
  first | refine rt (hq := ?_) | refine rt' (hq := ?_)
  exact ⟨rfl, hs.only0 rfl⟩
theorem cfweight_ret (c : Cf) (n : Int) (w0 : World) : Ret Tryz.prog 18 #[cfv c, .int .u64 n] w0 fun v w' => v = .int .i64 (withinE n 1048576) ∧ Only [] w0 w' := by
  have hs := St.nil w0
  refine ret_of_xc Tryz.func18 (by kernel_rfl) rfl Tryz.ntmps18 rfl rfl rfl ?_
  repeat' (first|refine vs (k:=?_)|(refine bx hs (k:=?_);intro b w hz hs)|refine qRg ?_|refine Nx.h ?_|fail)
  (with_reducible apply xs_call); exact rfl; exact rfl; exact lwithin_ret n 1048576 _
  rintro v w' ⟨rfl, ho⟩; replace hs := hs.call0 ho; repeat' (first|refine vs (k:=?_)|refine Nx.h ?_|fail)
  first | refine rt (hq := ?_) | refine rt' (hq := ?_)
  exact ⟨rfl, hs.only0 rfl⟩
def keepF (c : Cf) (x s : Int) : Int := clampW x ((winC s c.tick).getD 0)
theorem winC_in (s t : Int) : In64 ((winC s t).getD 0) := by
  unfold winC
  split
  · show In64 ((2 * s + t) * 1048576)
    unfold In64; omega
  · decide
theorem keep_ret (c : Cf) (x s : Int) (hc : c.In) (hx : InW x) (hs0 : U64 s) (w0 : World) : Ret Tryz.prog 19 #[cfv c, wv x, .int .u64 s] w0 fun v w' => v = .int .i64 (keepF c x s) ∧ Only [] w0 w' := by
  have hs := St.nil w0
  refine ret_of_xc Tryz.func19 (by kernel_rfl) rfl Tryz.ntmps19 rfl rfl rfl ?_
  repeat' (first|refine vs (k:=?_)|(refine bx hs (k:=?_);intro b w hz hs)|refine qRg ?_|refine Nx.h ?_|fail)
  (with_reducible apply xs_call); exact rfl; exact rfl; exact window_ret s c.tick hs0 hc.2.2.1 _
  rintro v w' ⟨rfl, ho⟩; replace hs := hs.call0 ho; repeat' (first|refine vs (k:=?_)|refine qRg ?_|refine Nx.h ?_|fail)
  (with_reducible apply xs_call); exact rfl; exact rfl; exact clamp_ret x ((winC s c.tick).getD 0) hx (winC_in _ _) _
  rintro v w' ⟨rfl, ho⟩; replace hs := hs.call0 ho; repeat' (first|refine vs (k:=?_)|refine Nx.h ?_|fail)
  first | refine rt (hq := ?_) | refine rt' (hq := ?_)
  exact ⟨rfl, hs.only0 rfl⟩
def checkF (c : Cf) : Int := if c.cores < 1 ∨ c.tasks < 1 then 3 else allE [withinE c.cores 8, withinE c.tasks 32, withinE c.tick 1099511627776, withinE c.slice 1099511627776]
set_option maxHeartbeats 4000000 in
theorem check_ret (c : Cf) (hc0 : c.In) (w0 : World) : Ret Tryz.prog 21 #[cfv c] w0 fun v w' => v = .int .i64 (checkF c) ∧ Only [] w0 w' := by
  obtain ⟨i1, i2, i3, i4, i5⟩ := hc0
  unfold In64 at i1 i2
  have hs := St.nil w0
  refine ret_of_xc Tryz.func21 (by kernel_rfl) rfl Tryz.ntmps21 rfl rfl rfl ?_
  repeat' (first|refine Nx.h ?_|fail)
  refine xc_region ?_ ?_; exact rfl
  refine bx hs (k := ?_); intro b w hz hs
  refine vs (k := ?_)
  repeat' (first|refine Nx.h ?_|fail)
  refine xc_region ?_ ?_; exact rfl
  refine vs (k := ?_)
  refine vs (k := ?_)
  refine vs (k := ?_)
  unfold checkF
  by_cases c1 : c.cores < 1
  · rw [decide_eq_true c1, if_pos (.inl c1)]
    repeat' (first|refine vs (k:=?_)|refine ps (k:=?_)|refine qRg ?_|refine Nx.h ?_|refine qCt ?_|fail)
    first | refine rt (hq := ?_) | refine rt' (hq := ?_)
    exact ⟨rfl, hs.only0 rfl⟩
  rw [decide_eq_false c1]
  refine vs (k := ?_)
  refine vs (k := ?_)
  refine vs (k := ?_)
  refine vs (k := ?_)
  by_cases c2 : c.tasks < 1
  · rw [decide_eq_true c2, if_pos (.inr c2)]
    repeat' (first|refine vs (k:=?_)|refine qRg ?_|refine Nx.h ?_|refine qCt ?_|fail)
    first | refine rt (hq := ?_) | refine rt' (hq := ?_)
    exact ⟨rfl, hs.only0 rfl⟩
  rw [decide_eq_false c2, if_neg (by omega)]
  repeat' (first|refine vs (k:=?_)|refine Nx.h ?_|refine qCf ?_|fail)
  have e1 : IntKind.u64.wrap c.cores = c.cores := by rw [wrap_u64]; omega
  have e2 : IntKind.u64.wrap c.tasks = c.tasks := by rw [wrap_u64]; omega
  refine dr [] hs (k := ?_); intro hX w hs
  refine tk 0 hX (k := ?_)
  refine tk 1 hX (k := ?_)
  refine tk 2 hX (k := ?_)
  refine tk 4 hX (k := ?_)
  refine tk 5 hX (k := ?_)
  refine tk 6 hX (k := ?_)
  refine tk 8 hX (k := ?_)
  refine tk 9 hX (k := ?_)
  refine tk 11 hX (k := ?_)
  refine tk 12 hX (k := ?_)
  refine dt 3 hX (k := ?_)
  (with_reducible apply xs_call); exact rfl; exact rfl; exact lwithin_ret (IntKind.u64.wrap c.cores) 8 _
  rw [e1]
  rintro v w' ⟨rfl, ho⟩; replace hs := hs.call0 ho; repeat' (first|refine Nx.h ?_|fail)
  refine dn (k := ?_)
  refine dt 7 hX (k := ?_)
  (with_reducible apply xs_call); exact rfl; exact rfl; exact lwithin_ret (IntKind.u64.wrap c.tasks) 32 _
  rw [e2]
  rintro v w' ⟨rfl, ho⟩; replace hs := hs.call0 ho; repeat' (first|refine Nx.h ?_|fail)
  refine dn (k := ?_)
  refine dt 10 hX (k := ?_)
  (with_reducible apply xs_call); exact rfl; exact rfl; exact lwithin_ret c.tick 1099511627776 _
  rintro v w' ⟨rfl, ho⟩; replace hs := hs.call0 ho; repeat' (first|refine Nx.h ?_|fail)
  refine dn (k := ?_)
  refine dt 13 hX (k := ?_)
  (with_reducible apply xs_call); exact rfl; exact rfl; exact lwithin_ret c.slice 1099511627776 _
  rintro v w' ⟨rfl, ho⟩; replace hs := hs.call0 ho; repeat' (first|refine Nx.h ?_|fail)
  refine dn (k := ?_)
  refine dt 14 hX (k := ?_)
  repeat' (first|(refine bs hs (k:=?_);intro b w hz hs)|refine Nx.h ?_|fail)
  refine dn (k := ?_)
  refine dt 15 hX (k := ?_)
  (with_reducible apply xs_call); exact rfl; exact rfl; exact all_ret [withinE c.cores 8, withinE c.tasks 32, withinE c.tick 1099511627776, withinE c.slice 1099511627776] _ (by simp) _ (lit_ls (n := 4) (hs.get At.head) rfl (fun x hx => by obtain ⟨e, _, rfl⟩ := List.mem_map.1 hx; rfl) rfl).x
  rintro v w' ⟨rfl, ho⟩; replace hs := hs.call0 ho; repeat' (first|refine Nx.h ?_|fail)
  refine dn (k := ?_)
  refine tk 16 hX (k := ?_)
  refine en (k := ?_)
  repeat' (first|refine Nx.h ?_|fail)
  first | refine rt (hq := ?_) | refine rt' (hq := ?_)
  exact ⟨rfl, hs.only0 rfl⟩
end Go.Proofs.YthablfhijlommaaGreatDoorX

namespace Go.Proofs.YthablfhijlommaaGreatDoorX
open Go Go.RowKit
attribute [local irreducible] XS XC XA thenE blockE retE loopE loopS cutB cutN doneE SE
set_option maxHeartbeats 4000000 in
theorem awake19_ret (w0 : World) (ht : Pows w0) : Ret Tryz.prog 13 #[] w0 fun v w' => v = .bool true ∧ Only [] w0 w' := by
  have hs := St.nil w0
  refine ret_of_xc Tryz.func13 (by kernel_rfl) rfl Tryz.ntmps13 rfl rfl rfl ?_
  repeat' (first|refine vs (k:=?_)|(refine stA hs (k:=?_);intro w hs)|(refine al hs (k:=?_);intro b w hz hs)|refine qRg ?_|refine Nx.h ?_|fail)
  (with_reducible apply xs_call); exact rfl; exact rfl; exact Awake18_ret _ (tab_only ht (hs.only0 rfl))
  rintro v w' ⟨rfl, ho⟩; replace hs := hs.call0 ho; repeat' (first|refine vs (k:=?_)|fail)
  (with_reducible apply xs_call); exact rfl; exact rfl; exact check_ret ⟨2, 3, 4, 5, 0⟩ (by unfold Cf.In; decide) _
  rw [show checkF ⟨2, 3, 4, 5, 0⟩ = 0 by decide]
  rintro v w' ⟨rfl, ho⟩; replace hs := hs.call0 ho; repeat' (first|refine vs (k:=?_)|fail)
  (with_reducible apply xs_call); exact rfl; exact rfl; exact ccore_ret ⟨2, 3, 4, 5, 0⟩ 2 _
  rw [show coreE ⟨2, 3, 4, 5, 0⟩ 2 = 5 by decide]
  rintro v w' ⟨rfl, ho⟩; replace hs := hs.call0 ho; repeat' (first|refine vs (k:=?_)|fail)
  (with_reducible apply xs_call); exact rfl; exact rfl; exact ccore_ret ⟨2, 3, 4, 5, 0⟩ 1 _
  rw [show coreE ⟨2, 3, 4, 5, 0⟩ 1 = 0 by decide]
  rintro v w' ⟨rfl, ho⟩; replace hs := hs.call0 ho; repeat' (first|refine vs (k:=?_)|refine Nx.h ?_|fail)
  first | refine rt (hq := ?_) | refine rt' (hq := ?_)
  exact ⟨rfl, hs.only0 rfl⟩
theorem Awake19_ret (w0 : World) (ht : Pows w0) : Ret Tryz.prog 65 #[] w0 fun v w' => v = .bool true ∧ Only [] w0 w' := by
  have hs := St.nil w0
  refine ret_of_xc Tryz.func65 (by kernel_rfl) rfl Tryz.ntmps65 rfl rfl rfl ?_
  repeat' (first|refine vs (k:=?_)|refine qRg ?_|refine Nx.h ?_|fail)
  (with_reducible apply xs_call); exact rfl; exact rfl; exact awake19_ret _ (tab_only ht (hs.only0 rfl))
  rintro v w' ⟨rfl, ho⟩; replace hs := hs.call0 ho; repeat' (first|refine vs (k:=?_)|refine Nx.h ?_|fail)
  first | refine rt (hq := ?_) | refine rt' (hq := ?_)
  exact ⟨rfl, hs.only0 rfl⟩
set_option maxHeartbeats 4000000 in
theorem limitsFirst_ret (l : List Int) (sl : Value) (w0 : World) (ht : Pows w0) (hL : LsX w0 1 sl (l.map errR)) : Ret Tryz.prog 3 #[sl] w0 fun v w' => v = .bool true ∧ Only [] w0 w' := by
  have hL0 := hL
  obtain ⟨ad, cap, rfl, hD⟩ := hL
  rw [List.length_map] at hL0 ⊢
  have hs := St.nil w0
  refine ret_of_xc Tryz.func3 (by kernel_rfl) rfl Tryz.ntmps3 rfl rfl rfl ?_
  repeat' (first|refine vs (k:=?_)|refine qRg ?_|refine Nx.h ?_|fail)
  (with_reducible apply xs_call); exact rfl; exact rfl; exact awake19_ret _ (tab_only ht (hs.only0 rfl))
  rintro v w' ⟨rfl, ho⟩; replace hs := hs.call0 ho; repeat' (first|refine vs (k:=?_)|refine qRg ?_|refine Nx.h ?_|refine qCf ?_|(refine xc_if rfl (fun hc=>?_) (fun hc=>?_))|fail)
  · first | refine rt (hq := ?_) | refine rt' (hq := ?_)
    exact ⟨rfl, hs.only0 rfl⟩
  · have hm : l.length ≤ 9223372036854775807 := by omega
    (with_reducible apply xs_call); exact rfl; exact rfl; exact all_ret l _ hm _ (hL0.only (hs.only0 rfl))
    rintro v w1 ⟨rfl, ho1⟩
    have hoA := (hs.only0 rfl).trans ho1
    clear hs
    have hs := St.nil w1
    repeat' (first|refine vs (k:=?_)|refine qRg ?_|refine Nx.h ?_|fail)
    refine xc_cutB (fun (_ : Unit) => [(3, .int .i64 (allE l))]) (fun _ w => allE l = 0 ∧ Only [] w1 w) ?_ ?_
    · refine xc_loopS (fun (i : Nat) => [(3, .int .i64 (allE l)), (13, .slice ad l.length cap), (14, .int .i64 (l.length : Nat)), (15, .int .i64 (i : Nat))]) (fun i w => i ≤ l.length ∧ allE (l.drop i) = allE l ∧ Only [] w1 w) (fun i => l.length - i) 0 (by (repeat (first | exact agree_nil | (apply agree_cons; exact rfl)))) ⟨Nat.zero_le _, by rw [List.drop_zero], hs.only0 rfl⟩ fun i env wl ⟨hi, he, ho0⟩ => ?_
      clear hs
      have hs := St.nil wl
      repeat' (first|refine vs (k:=?_)|refine qRg ?_|refine Nx.h ?_|(refine xc_if rfl (fun hc=>?_) (fun hc=>?_))|fail)
      · have hlt : i < l.length := by omega
        obtain ⟨b, off, cs, E, fz, rfl, hb, hcs⟩ := hD (fun h => by have := congrArg List.length h; rw [List.length_map, List.length_nil] at this; omega)
        have hpk := hcs i (errR l[i]) (by rw [List.getElem?_map, List.getElem?_eq_getElem hlt]; rfl)
        have ei := nx64 (m := l.length) hlt hm
        rw [allE_drop hlt] at he
        generalize l[i] = q at *
        refine ix (h0 := (by omega)) (h1 := (by omega)) (k := ?_)
        refine lh ((hoA.trans ho0).block hb (by simp)) (by cases hpk; assumption) (k := ?_)
        by_cases hq : q = 0
        · subst hq
          rw [if_neg (by simp)] at he
          repeat' (first|refine vs (k:=?_)|refine qRg ?_|refine Nx.h ?_|refine qCf ?_|fail)
          exact loopS_next (i + 1) (by show l.length - (i + 1) < l.length - i; omega) (by (repeat (first | exact agree_nil | (apply agree_cons; first | exact rfl | exact congrArg (Value.int .i64) ei)))) ⟨by show i + 1 ≤ _; omega, he, ho0.trans (hs.only0 rfl)⟩
        · rw [if_pos hq] at he
          rw [← he]
          repeat' (first|refine vs (k:=?_)|refine qRg ?_|refine Nx.h ?_|(refine xc_cond rfl (fun hc=>?_) (fun hc=>?_))|fail)
          · first | refine rt (hq := ?_) | refine rt' (hq := ?_)
            exact ⟨by simp [packed], (hoA.trans ho0).trans (hs.only0 rfl)⟩
          · exact absurd (by simpa using hc) hq
      · have e : i = l.length := by omega
        subst e
        rw [List.drop_length] at he
        exact cutB_exit () (by (repeat (first | exact agree_nil | (apply agree_cons; exact rfl)))) ⟨he.symm, ho0⟩
    · rintro _ env w ⟨he, ho0⟩
      clear hs
      have hs := St.nil w
      rw [he]
      repeat' (first|refine vs (k:=?_)|refine qRg ?_|refine Nx.h ?_|fail)
      first | refine rt (hq := ?_) | refine rt' (hq := ?_)
      exact ⟨rfl, (hoA.trans ho0).trans (hs.only0 rfl)⟩
end Go.Proofs.YthablfhijlommaaGreatDoorX

namespace Go.Proofs.YthablfhijlommaaGreatDoorX
open Go Go.RowKit Go.ChangeShapes Go.WideShapes Go.ChangeAt
theorem shape_cfg : Tryz.prog.underlying 29 = some (.struct #[{ name := "Cores", type := 3, offset := 0, embedded := false, tag := "", pkgPath := "", byteOffset := 0 }, { name := "Tasks", type := 3, offset := 1, embedded := false, tag := "", pkgPath := "", byteOffset := 8 }, { name := "Tick", type := 27, offset := 2, embedded := false, tag := "", pkgPath := "", byteOffset := 16 }, { name := "Slice", type := 27, offset := 3, embedded := false, tag := "", pkgPath := "", byteOffset := 24 }, { name := "Origin", type := 27, offset := 4, embedded := false, tag := "", pkgPath := "", byteOffset := 32 }]) := by kernel_rfl
theorem rng_i64 {x : Int} (h : Lit.wf (.int .i64 x) = true) : In64 x := by
  have h : IntKind.i64.min ≤ x ∧ x ≤ IntKind.i64.max := by simpa [Lit.wf] using h
  have e1 : IntKind.i64.min = -9223372036854775808 := rfl
  have e2 : IntKind.i64.max = 9223372036854775807 := rfl
  unfold In64; omega
theorem rng_u64 {x : Int} (h : Lit.wf (.int .u64 x) = true) : U64 x := by
  have h : IntKind.u64.min ≤ x ∧ x ≤ IntKind.u64.max := by simpa [Lit.wf] using h
  have e1 : IntKind.u64.min = 0 := rfl
  have e2 : IntKind.u64.max = 18446744073709551615 := rfl
  unfold U64; omega
set_option maxRecDepth 100000 in
theorem open_cfg {H : Type} {enc : TypeId × Value → H} {W : World} {r : Reach} {b0 base : Nat} {spare : Nat → Bool} {held : Bool} {v : Value} {d : DataW H} {p : List MemPlace} (hv : Value.okWide Tryz.prog W r b0 29 v)
    (h : DataW.Trod enc Tryz.prog W base spare held 29 v d p) : ∃ c : Cf, c.In ∧ v = cfv c := by
  obtain ⟨cs, rfl, hsz⟩ := okWide_struct shape_cfg hv
  have hC : Tryz.prog.cellsOf 29 = 5 := by kernel_rfl
  rw [hC] at hsz
  obtain ⟨l⟩ := cs
  match l, hsz with
  | [v0, v1, v2, v3, v4], _ =>
    obtain ⟨fuel, hf⟩ := h
    obtain ⟨xs, n, _, _, hl, hlen, hq⟩ := DataW.trod_struct shape_cfg hf
    match xs, hlen with
    | [y0, y1, y2, y3, y4], _ =>
      have c1 : Tryz.prog.cellsOf 3 = 1 := by kernel_rfl
      have c2 : Tryz.prog.cellsOf 27 = 1 := by kernel_rfl
      have h0 := hq 0 _ rfl
      have h1 := hq 1 _ rfl
      have h2 := hq 2 _ rfl
      have h3 := hq 3 _ rfl
      have h4 := hq 4 _ rfl
      obtain ⟨a0, e0, _, w0⟩ := DataW.trod_int (t := 3) (k := .i64) (by kernel_rfl) h0
      obtain ⟨a1, e1, _, w1⟩ := DataW.trod_int (t := 3) (k := .i64) (by kernel_rfl) h1
      obtain ⟨a2, e2, _, w2⟩ := DataW.trod_int (t := 27) (k := .u64) (by kernel_rfl) h2
      obtain ⟨a3, e3, _, w3⟩ := DataW.trod_int (t := 27) (k := .u64) (by kernel_rfl) h3
      obtain ⟨a4, e4, _, w4⟩ := DataW.trod_int (t := 27) (k := .u64) (by kernel_rfl) h4
      have q0 : v0 = .int .i64 a0 := by
        have e : List.take (Tryz.prog.cellsOf 3) (List.drop 0 [v0, v1, v2, v3, v4]) = [.int .i64 a0] := e0
        rw [c1] at e; simpa using e
      have q1 : v1 = .int .i64 a1 := by
        have e : List.take (Tryz.prog.cellsOf 3) (List.drop 1 [v0, v1, v2, v3, v4]) = [.int .i64 a1] := e1
        rw [c1] at e; simpa using e
      have q2 : v2 = .int .u64 a2 := by
        have e : List.take (Tryz.prog.cellsOf 27) (List.drop 2 [v0, v1, v2, v3, v4]) = [.int .u64 a2] := e2
        rw [c2] at e; simpa using e
      have q3 : v3 = .int .u64 a3 := by
        have e : List.take (Tryz.prog.cellsOf 27) (List.drop 3 [v0, v1, v2, v3, v4]) = [.int .u64 a3] := e3
        rw [c2] at e; simpa using e
      have q4 : v4 = .int .u64 a4 := by
        have e : List.take (Tryz.prog.cellsOf 27) (List.drop 4 [v0, v1, v2, v3, v4]) = [.int .u64 a4] := e4
        rw [c2] at e; simpa using e
      exact ⟨⟨a0, a1, a2, a3, a4⟩, ⟨rng_i64 w0, rng_i64 w1, rng_u64 w2, rng_u64 w3, rng_u64 w4⟩, by rw [q0, q1, q2, q3, q4]; rfl⟩
end Go.Proofs.YthablfhijlommaaGreatDoorX

namespace Go.Proofs.YthablfhijlommaaGreatDoorX
open Go Go.RowKit
attribute [local irreducible] XS XC XA thenE blockE retE loopE loopS cutB cutN doneE SE
theorem ne_bool {a : Int} {b : Bool} (h : (a != 0) = b) : (b = false → a = 0) := fun e => by subst e; simpa using h
set_option maxHeartbeats 8000000 in
theorem limitsRise_ret (c d : Cf) (k n : Int) (w0 : World) (ht : Pows w0) : Ret Tryz.prog 4 #[cfv c, cfv d, .int .i64 k, .int .u64 n] w0 fun v w' => v = .bool true ∧ Only [] w0 w' := by
  have hs := St.nil w0
  refine ret_of_xc Tryz.func4 (by kernel_rfl) rfl Tryz.ntmps4 rfl rfl rfl ?_
  repeat' (first|refine Nx.h ?_|fail)
  refine xc_region ?_ ?_; exact rfl
  refine bx hs (k := ?_); intro b4 w _ hs
  refine bx hs (k := ?_); intro b5 w _ hs
  repeat' (first|refine vs (k:=?_)|refine qRg ?_|refine Nx.h ?_|fail)
  (with_reducible apply xs_call); exact rfl; exact rfl; exact awake19_ret _ (tab_only ht (hs.only0 rfl))
  rintro v w' ⟨rfl, ho⟩; replace hs := hs.call0 ho; repeat' (first|refine vs (k:=?_)|refine Nx.h ?_|refine qCf ?_|fail)
  refine xc_region ?_ ?_; exact rfl
  iterate 5 refine vs (k := ?_)
  by_cases c1 : d.cores < c.cores
  · rw [decide_eq_true c1]
    repeat' (first|refine vs (k:=?_)|refine ps (k:=?_)|refine qRg ?_|refine Nx.h ?_|refine qCt ?_|fail)
    first | refine rt (hq := ?_) | refine rt' (hq := ?_)
    exact ⟨rfl, hs.only0 rfl⟩
  rw [decide_eq_false c1]
  iterate 6 refine vs (k := ?_)
  by_cases c2 : d.tick < c.tick
  · rw [decide_eq_true c2]
    repeat' (first|refine vs (k:=?_)|refine ps (k:=?_)|refine qRg ?_|refine Nx.h ?_|refine qCt ?_|fail)
    first | refine rt (hq := ?_) | refine rt' (hq := ?_)
    exact ⟨rfl, hs.only0 rfl⟩
  rw [decide_eq_false c2]
  iterate 7 refine vs (k := ?_)
  by_cases c3 : d.slice < c.slice
  · rw [decide_eq_true c3]
    repeat' (first|refine vs (k:=?_)|refine qRg ?_|refine Nx.h ?_|refine qCt ?_|fail)
    first | refine rt (hq := ?_) | refine rt' (hq := ?_)
    exact ⟨rfl, hs.only0 rfl⟩
  rw [decide_eq_false c3]
  repeat' (first|refine vs (k:=?_)|refine Nx.h ?_|refine qCf ?_|fail)
  have f1 : coreE c k = 0 → coreE d k = 0 := by unfold coreE; split <;> split <;> omega
  have f2 : withinE n (capN c.slice) = 0 → withinE n (capN d.slice) = 0 := by unfold withinE capN; repeat' split <;> omega
  have f3 : withinE n (capN c.tick) = 0 → withinE n (capN d.tick) = 0 := by unfold withinE capN; repeat' split <;> omega
  generalize ha : coreE c k = a at *
  generalize hb : withinE n (capN c.slice) = b at *
  generalize hc' : withinE n (capN c.tick) = e at *
  by_cases h1 : a = 0
  · by_cases h2 : b = 0
    · by_cases h3 : e = 0
      · refine dr [] hs (k := ?_); intro hX w hs
        refine tk 0 hX (k := ?_)
        refine tk 1 hX (k := ?_)
        refine dt 2 hX (k := ?_)
        (with_reducible apply xs_call); exact rfl; exact rfl; exact ccore_ret c k _
        rw [ha]
        rintro v w' ⟨rfl, ho⟩; replace hs := hs.call0 ho; repeat' (first|refine Nx.h ?_|fail)
        refine dn (k := ?_)
        refine tk 3 hX (k := ?_)
        rw [show (a != 0) = false from by simp [h1]]
        refine tk 4 hX (k := ?_)
        refine tk 5 hX (k := ?_)
        refine tk 6 hX (k := ?_)
        refine dt 7 hX (k := ?_)
        (with_reducible apply xs_call); exact rfl; exact rfl; exact ccore_ret d k _
        rw [f1 h1]
        rintro v w' ⟨rfl, ho⟩; replace hs := hs.call0 ho; repeat' (first|refine Nx.h ?_|fail)
        refine dn (k := ?_)
        refine tk 8 hX (k := ?_)
        refine tk 9 hX (k := ?_)
        refine tk 10 hX (k := ?_)
        refine tk 11 hX (k := ?_)
        refine tk 12 hX (k := ?_)
        refine dt 13 hX (k := ?_)
        (with_reducible apply xs_call); exact rfl; exact rfl; exact crequest_ret c n _
        rw [hb]
        rintro v w' ⟨rfl, ho⟩; replace hs := hs.call0 ho; repeat' (first|refine Nx.h ?_|fail)
        refine dn (k := ?_)
        refine tk 14 hX (k := ?_)
        rw [show (b != 0) = false from by simp [h2]]
        refine tk 15 hX (k := ?_)
        refine tk 16 hX (k := ?_)
        refine tk 17 hX (k := ?_)
        refine dt 18 hX (k := ?_)
        (with_reducible apply xs_call); exact rfl; exact rfl; exact crequest_ret d n _
        rw [f2 h2]
        rintro v w' ⟨rfl, ho⟩; replace hs := hs.call0 ho; repeat' (first|refine Nx.h ?_|fail)
        refine dn (k := ?_)
        refine tk 19 hX (k := ?_)
        refine tk 20 hX (k := ?_)
        refine tk 21 hX (k := ?_)
        refine tk 22 hX (k := ?_)
        refine tk 23 hX (k := ?_)
        refine tk 24 hX (k := ?_)
        refine dt 25 hX (k := ?_)
        (with_reducible apply xs_call); exact rfl; exact rfl; exact ctime_ret c n _
        rw [hc']
        rintro v w' ⟨rfl, ho⟩; replace hs := hs.call0 ho; repeat' (first|refine Nx.h ?_|fail)
        refine dn (k := ?_)
        refine tk 26 hX (k := ?_)
        rw [show (e != 0) = false from by simp [h3]]
        refine tk 27 hX (k := ?_)
        refine tk 28 hX (k := ?_)
        refine tk 29 hX (k := ?_)
        refine dt 30 hX (k := ?_)
        (with_reducible apply xs_call); exact rfl; exact rfl; exact ctime_ret d n _
        rw [f3 h3]
        rintro v w' ⟨rfl, ho⟩; replace hs := hs.call0 ho; repeat' (first|refine Nx.h ?_|fail)
        refine dn (k := ?_)
        refine tk 31 hX (k := ?_)
        refine tk 32 hX (k := ?_)
        refine tk 33 hX (k := ?_)
        refine tk 34 hX (k := ?_)
        refine tk 35 hX (k := ?_)
        refine tk 36 hX (k := ?_)
        refine tk 38 hX (k := ?_)
        refine tk 39 hX (k := ?_)
        refine dt 37 hX (k := ?_)
        (with_reducible apply xs_call); exact rfl; exact rfl; exact cfweight_ret c n _
        rintro v w' ⟨rfl, ho⟩; replace hs := hs.call0 ho; repeat' (first|refine Nx.h ?_|fail)
        refine dn (k := ?_)
        refine dt 40 hX (k := ?_)
        (with_reducible apply xs_call); exact rfl; exact rfl; exact cfweight_ret d n _
        rintro v w' ⟨rfl, ho⟩; replace hs := hs.call0 ho; repeat' (first|refine Nx.h ?_|fail)
        refine dn (k := ?_)
        refine tk 41 hX (k := ?_)
        rw [show (withinE n 1048576 == withinE n 1048576) = true by simp]
        refine tk 42 hX (k := ?_)
        refine tk 43 hX (k := ?_)
        refine en (k := ?_)
        repeat' (first|refine Nx.h ?_|fail)
        first | refine rt (hq := ?_) | refine rt' (hq := ?_)
        exact ⟨rfl, hs.only0 rfl⟩
      · refine dr [] hs (k := ?_); intro hX w hs
        refine tk 0 hX (k := ?_)
        refine tk 1 hX (k := ?_)
        refine dt 2 hX (k := ?_)
        (with_reducible apply xs_call); exact rfl; exact rfl; exact ccore_ret c k _
        rw [ha]
        rintro v w' ⟨rfl, ho⟩; replace hs := hs.call0 ho; repeat' (first|refine Nx.h ?_|fail)
        refine dn (k := ?_)
        refine tk 3 hX (k := ?_)
        rw [show (a != 0) = false from by simp [h1]]
        refine tk 4 hX (k := ?_)
        refine tk 5 hX (k := ?_)
        refine tk 6 hX (k := ?_)
        refine dt 7 hX (k := ?_)
        (with_reducible apply xs_call); exact rfl; exact rfl; exact ccore_ret d k _
        rw [f1 h1]
        rintro v w' ⟨rfl, ho⟩; replace hs := hs.call0 ho; repeat' (first|refine Nx.h ?_|fail)
        refine dn (k := ?_)
        refine tk 8 hX (k := ?_)
        refine tk 9 hX (k := ?_)
        refine tk 10 hX (k := ?_)
        refine tk 11 hX (k := ?_)
        refine tk 12 hX (k := ?_)
        refine dt 13 hX (k := ?_)
        (with_reducible apply xs_call); exact rfl; exact rfl; exact crequest_ret c n _
        rw [hb]
        rintro v w' ⟨rfl, ho⟩; replace hs := hs.call0 ho; repeat' (first|refine Nx.h ?_|fail)
        refine dn (k := ?_)
        refine tk 14 hX (k := ?_)
        rw [show (b != 0) = false from by simp [h2]]
        refine tk 15 hX (k := ?_)
        refine tk 16 hX (k := ?_)
        refine tk 17 hX (k := ?_)
        refine dt 18 hX (k := ?_)
        (with_reducible apply xs_call); exact rfl; exact rfl; exact crequest_ret d n _
        rw [f2 h2]
        rintro v w' ⟨rfl, ho⟩; replace hs := hs.call0 ho; repeat' (first|refine Nx.h ?_|fail)
        refine dn (k := ?_)
        refine tk 19 hX (k := ?_)
        refine tk 20 hX (k := ?_)
        refine tk 21 hX (k := ?_)
        refine tk 22 hX (k := ?_)
        refine tk 23 hX (k := ?_)
        refine tk 24 hX (k := ?_)
        refine dt 25 hX (k := ?_)
        (with_reducible apply xs_call); exact rfl; exact rfl; exact ctime_ret c n _
        rw [hc']
        rintro v w' ⟨rfl, ho⟩; replace hs := hs.call0 ho; repeat' (first|refine Nx.h ?_|fail)
        refine dn (k := ?_)
        refine tk 26 hX (k := ?_)
        rw [show (e != 0) = true from by simpa using h3]
        refine tk 27 hX (k := ?_)
        refine pt 28 hX (k := ?_)
        refine pt 29 hX (k := ?_)
        refine pt 30 hX (k := ?_)
        refine pt 31 hX (k := ?_)
        refine tk 32 hX (k := ?_)
        refine tk 33 hX (k := ?_)
        refine tk 34 hX (k := ?_)
        refine tk 35 hX (k := ?_)
        refine tk 36 hX (k := ?_)
        refine tk 38 hX (k := ?_)
        refine tk 39 hX (k := ?_)
        refine dt 37 hX (k := ?_)
        (with_reducible apply xs_call); exact rfl; exact rfl; exact cfweight_ret c n _
        rintro v w' ⟨rfl, ho⟩; replace hs := hs.call0 ho; repeat' (first|refine Nx.h ?_|fail)
        refine dn (k := ?_)
        refine dt 40 hX (k := ?_)
        (with_reducible apply xs_call); exact rfl; exact rfl; exact cfweight_ret d n _
        rintro v w' ⟨rfl, ho⟩; replace hs := hs.call0 ho; repeat' (first|refine Nx.h ?_|fail)
        refine dn (k := ?_)
        refine tk 41 hX (k := ?_)
        rw [show (withinE n 1048576 == withinE n 1048576) = true by simp]
        refine tk 42 hX (k := ?_)
        refine tk 43 hX (k := ?_)
        refine en (k := ?_)
        repeat' (first|refine Nx.h ?_|fail)
        first | refine rt (hq := ?_) | refine rt' (hq := ?_)
        exact ⟨rfl, hs.only0 rfl⟩
    · by_cases h3 : e = 0
      · refine dr [] hs (k := ?_); intro hX w hs
        refine tk 0 hX (k := ?_)
        refine tk 1 hX (k := ?_)
        refine dt 2 hX (k := ?_)
        (with_reducible apply xs_call); exact rfl; exact rfl; exact ccore_ret c k _
        rw [ha]
        rintro v w' ⟨rfl, ho⟩; replace hs := hs.call0 ho; repeat' (first|refine Nx.h ?_|fail)
        refine dn (k := ?_)
        refine tk 3 hX (k := ?_)
        rw [show (a != 0) = false from by simp [h1]]
        refine tk 4 hX (k := ?_)
        refine tk 5 hX (k := ?_)
        refine tk 6 hX (k := ?_)
        refine dt 7 hX (k := ?_)
        (with_reducible apply xs_call); exact rfl; exact rfl; exact ccore_ret d k _
        rw [f1 h1]
        rintro v w' ⟨rfl, ho⟩; replace hs := hs.call0 ho; repeat' (first|refine Nx.h ?_|fail)
        refine dn (k := ?_)
        refine tk 8 hX (k := ?_)
        refine tk 9 hX (k := ?_)
        refine tk 10 hX (k := ?_)
        refine tk 11 hX (k := ?_)
        refine tk 12 hX (k := ?_)
        refine dt 13 hX (k := ?_)
        (with_reducible apply xs_call); exact rfl; exact rfl; exact crequest_ret c n _
        rw [hb]
        rintro v w' ⟨rfl, ho⟩; replace hs := hs.call0 ho; repeat' (first|refine Nx.h ?_|fail)
        refine dn (k := ?_)
        refine tk 14 hX (k := ?_)
        rw [show (b != 0) = true from by simpa using h2]
        refine tk 15 hX (k := ?_)
        refine pt 16 hX (k := ?_)
        refine pt 17 hX (k := ?_)
        refine pt 18 hX (k := ?_)
        refine pt 19 hX (k := ?_)
        refine tk 20 hX (k := ?_)
        refine tk 21 hX (k := ?_)
        refine tk 22 hX (k := ?_)
        refine tk 23 hX (k := ?_)
        refine tk 24 hX (k := ?_)
        refine dt 25 hX (k := ?_)
        (with_reducible apply xs_call); exact rfl; exact rfl; exact ctime_ret c n _
        rw [hc']
        rintro v w' ⟨rfl, ho⟩; replace hs := hs.call0 ho; repeat' (first|refine Nx.h ?_|fail)
        refine dn (k := ?_)
        refine tk 26 hX (k := ?_)
        rw [show (e != 0) = false from by simp [h3]]
        refine tk 27 hX (k := ?_)
        refine tk 28 hX (k := ?_)
        refine tk 29 hX (k := ?_)
        refine dt 30 hX (k := ?_)
        (with_reducible apply xs_call); exact rfl; exact rfl; exact ctime_ret d n _
        rw [f3 h3]
        rintro v w' ⟨rfl, ho⟩; replace hs := hs.call0 ho; repeat' (first|refine Nx.h ?_|fail)
        refine dn (k := ?_)
        refine tk 31 hX (k := ?_)
        refine tk 32 hX (k := ?_)
        refine tk 33 hX (k := ?_)
        refine tk 34 hX (k := ?_)
        refine tk 35 hX (k := ?_)
        refine tk 36 hX (k := ?_)
        refine tk 38 hX (k := ?_)
        refine tk 39 hX (k := ?_)
        refine dt 37 hX (k := ?_)
        (with_reducible apply xs_call); exact rfl; exact rfl; exact cfweight_ret c n _
        rintro v w' ⟨rfl, ho⟩; replace hs := hs.call0 ho; repeat' (first|refine Nx.h ?_|fail)
        refine dn (k := ?_)
        refine dt 40 hX (k := ?_)
        (with_reducible apply xs_call); exact rfl; exact rfl; exact cfweight_ret d n _
        rintro v w' ⟨rfl, ho⟩; replace hs := hs.call0 ho; repeat' (first|refine Nx.h ?_|fail)
        refine dn (k := ?_)
        refine tk 41 hX (k := ?_)
        rw [show (withinE n 1048576 == withinE n 1048576) = true by simp]
        refine tk 42 hX (k := ?_)
        refine tk 43 hX (k := ?_)
        refine en (k := ?_)
        repeat' (first|refine Nx.h ?_|fail)
        first | refine rt (hq := ?_) | refine rt' (hq := ?_)
        exact ⟨rfl, hs.only0 rfl⟩
      · refine dr [] hs (k := ?_); intro hX w hs
        refine tk 0 hX (k := ?_)
        refine tk 1 hX (k := ?_)
        refine dt 2 hX (k := ?_)
        (with_reducible apply xs_call); exact rfl; exact rfl; exact ccore_ret c k _
        rw [ha]
        rintro v w' ⟨rfl, ho⟩; replace hs := hs.call0 ho; repeat' (first|refine Nx.h ?_|fail)
        refine dn (k := ?_)
        refine tk 3 hX (k := ?_)
        rw [show (a != 0) = false from by simp [h1]]
        refine tk 4 hX (k := ?_)
        refine tk 5 hX (k := ?_)
        refine tk 6 hX (k := ?_)
        refine dt 7 hX (k := ?_)
        (with_reducible apply xs_call); exact rfl; exact rfl; exact ccore_ret d k _
        rw [f1 h1]
        rintro v w' ⟨rfl, ho⟩; replace hs := hs.call0 ho; repeat' (first|refine Nx.h ?_|fail)
        refine dn (k := ?_)
        refine tk 8 hX (k := ?_)
        refine tk 9 hX (k := ?_)
        refine tk 10 hX (k := ?_)
        refine tk 11 hX (k := ?_)
        refine tk 12 hX (k := ?_)
        refine dt 13 hX (k := ?_)
        (with_reducible apply xs_call); exact rfl; exact rfl; exact crequest_ret c n _
        rw [hb]
        rintro v w' ⟨rfl, ho⟩; replace hs := hs.call0 ho; repeat' (first|refine Nx.h ?_|fail)
        refine dn (k := ?_)
        refine tk 14 hX (k := ?_)
        rw [show (b != 0) = true from by simpa using h2]
        refine tk 15 hX (k := ?_)
        refine pt 16 hX (k := ?_)
        refine pt 17 hX (k := ?_)
        refine pt 18 hX (k := ?_)
        refine pt 19 hX (k := ?_)
        refine tk 20 hX (k := ?_)
        refine tk 21 hX (k := ?_)
        refine tk 22 hX (k := ?_)
        refine tk 23 hX (k := ?_)
        refine tk 24 hX (k := ?_)
        refine dt 25 hX (k := ?_)
        (with_reducible apply xs_call); exact rfl; exact rfl; exact ctime_ret c n _
        rw [hc']
        rintro v w' ⟨rfl, ho⟩; replace hs := hs.call0 ho; repeat' (first|refine Nx.h ?_|fail)
        refine dn (k := ?_)
        refine tk 26 hX (k := ?_)
        rw [show (e != 0) = true from by simpa using h3]
        refine tk 27 hX (k := ?_)
        refine pt 28 hX (k := ?_)
        refine pt 29 hX (k := ?_)
        refine pt 30 hX (k := ?_)
        refine pt 31 hX (k := ?_)
        refine tk 32 hX (k := ?_)
        refine tk 33 hX (k := ?_)
        refine tk 34 hX (k := ?_)
        refine tk 35 hX (k := ?_)
        refine tk 36 hX (k := ?_)
        refine tk 38 hX (k := ?_)
        refine tk 39 hX (k := ?_)
        refine dt 37 hX (k := ?_)
        (with_reducible apply xs_call); exact rfl; exact rfl; exact cfweight_ret c n _
        rintro v w' ⟨rfl, ho⟩; replace hs := hs.call0 ho; repeat' (first|refine Nx.h ?_|fail)
        refine dn (k := ?_)
        refine dt 40 hX (k := ?_)
        (with_reducible apply xs_call); exact rfl; exact rfl; exact cfweight_ret d n _
        rintro v w' ⟨rfl, ho⟩; replace hs := hs.call0 ho; repeat' (first|refine Nx.h ?_|fail)
        refine dn (k := ?_)
        refine tk 41 hX (k := ?_)
        rw [show (withinE n 1048576 == withinE n 1048576) = true by simp]
        refine tk 42 hX (k := ?_)
        refine tk 43 hX (k := ?_)
        refine en (k := ?_)
        repeat' (first|refine Nx.h ?_|fail)
        first | refine rt (hq := ?_) | refine rt' (hq := ?_)
        exact ⟨rfl, hs.only0 rfl⟩
  · by_cases h2 : b = 0
    · by_cases h3 : e = 0
      · refine dr [] hs (k := ?_); intro hX w hs
        refine tk 0 hX (k := ?_)
        refine tk 1 hX (k := ?_)
        refine dt 2 hX (k := ?_)
        (with_reducible apply xs_call); exact rfl; exact rfl; exact ccore_ret c k _
        rw [ha]
        rintro v w' ⟨rfl, ho⟩; replace hs := hs.call0 ho; repeat' (first|refine Nx.h ?_|fail)
        refine dn (k := ?_)
        refine tk 3 hX (k := ?_)
        rw [show (a != 0) = true from by simpa using h1]
        refine tk 4 hX (k := ?_)
        refine pt 5 hX (k := ?_)
        refine pt 6 hX (k := ?_)
        refine pt 7 hX (k := ?_)
        refine pt 8 hX (k := ?_)
        refine tk 9 hX (k := ?_)
        refine tk 10 hX (k := ?_)
        refine tk 11 hX (k := ?_)
        refine tk 12 hX (k := ?_)
        refine dt 13 hX (k := ?_)
        (with_reducible apply xs_call); exact rfl; exact rfl; exact crequest_ret c n _
        rw [hb]
        rintro v w' ⟨rfl, ho⟩; replace hs := hs.call0 ho; repeat' (first|refine Nx.h ?_|fail)
        refine dn (k := ?_)
        refine tk 14 hX (k := ?_)
        rw [show (b != 0) = false from by simp [h2]]
        refine tk 15 hX (k := ?_)
        refine tk 16 hX (k := ?_)
        refine tk 17 hX (k := ?_)
        refine dt 18 hX (k := ?_)
        (with_reducible apply xs_call); exact rfl; exact rfl; exact crequest_ret d n _
        rw [f2 h2]
        rintro v w' ⟨rfl, ho⟩; replace hs := hs.call0 ho; repeat' (first|refine Nx.h ?_|fail)
        refine dn (k := ?_)
        refine tk 19 hX (k := ?_)
        refine tk 20 hX (k := ?_)
        refine tk 21 hX (k := ?_)
        refine tk 22 hX (k := ?_)
        refine tk 23 hX (k := ?_)
        refine tk 24 hX (k := ?_)
        refine dt 25 hX (k := ?_)
        (with_reducible apply xs_call); exact rfl; exact rfl; exact ctime_ret c n _
        rw [hc']
        rintro v w' ⟨rfl, ho⟩; replace hs := hs.call0 ho; repeat' (first|refine Nx.h ?_|fail)
        refine dn (k := ?_)
        refine tk 26 hX (k := ?_)
        rw [show (e != 0) = false from by simp [h3]]
        refine tk 27 hX (k := ?_)
        refine tk 28 hX (k := ?_)
        refine tk 29 hX (k := ?_)
        refine dt 30 hX (k := ?_)
        (with_reducible apply xs_call); exact rfl; exact rfl; exact ctime_ret d n _
        rw [f3 h3]
        rintro v w' ⟨rfl, ho⟩; replace hs := hs.call0 ho; repeat' (first|refine Nx.h ?_|fail)
        refine dn (k := ?_)
        refine tk 31 hX (k := ?_)
        refine tk 32 hX (k := ?_)
        refine tk 33 hX (k := ?_)
        refine tk 34 hX (k := ?_)
        refine tk 35 hX (k := ?_)
        refine tk 36 hX (k := ?_)
        refine tk 38 hX (k := ?_)
        refine tk 39 hX (k := ?_)
        refine dt 37 hX (k := ?_)
        (with_reducible apply xs_call); exact rfl; exact rfl; exact cfweight_ret c n _
        rintro v w' ⟨rfl, ho⟩; replace hs := hs.call0 ho; repeat' (first|refine Nx.h ?_|fail)
        refine dn (k := ?_)
        refine dt 40 hX (k := ?_)
        (with_reducible apply xs_call); exact rfl; exact rfl; exact cfweight_ret d n _
        rintro v w' ⟨rfl, ho⟩; replace hs := hs.call0 ho; repeat' (first|refine Nx.h ?_|fail)
        refine dn (k := ?_)
        refine tk 41 hX (k := ?_)
        rw [show (withinE n 1048576 == withinE n 1048576) = true by simp]
        refine tk 42 hX (k := ?_)
        refine tk 43 hX (k := ?_)
        refine en (k := ?_)
        repeat' (first|refine Nx.h ?_|fail)
        first | refine rt (hq := ?_) | refine rt' (hq := ?_)
        exact ⟨rfl, hs.only0 rfl⟩
      · refine dr [] hs (k := ?_); intro hX w hs
        refine tk 0 hX (k := ?_)
        refine tk 1 hX (k := ?_)
        refine dt 2 hX (k := ?_)
        (with_reducible apply xs_call); exact rfl; exact rfl; exact ccore_ret c k _
        rw [ha]
        rintro v w' ⟨rfl, ho⟩; replace hs := hs.call0 ho; repeat' (first|refine Nx.h ?_|fail)
        refine dn (k := ?_)
        refine tk 3 hX (k := ?_)
        rw [show (a != 0) = true from by simpa using h1]
        refine tk 4 hX (k := ?_)
        refine pt 5 hX (k := ?_)
        refine pt 6 hX (k := ?_)
        refine pt 7 hX (k := ?_)
        refine pt 8 hX (k := ?_)
        refine tk 9 hX (k := ?_)
        refine tk 10 hX (k := ?_)
        refine tk 11 hX (k := ?_)
        refine tk 12 hX (k := ?_)
        refine dt 13 hX (k := ?_)
        (with_reducible apply xs_call); exact rfl; exact rfl; exact crequest_ret c n _
        rw [hb]
        rintro v w' ⟨rfl, ho⟩; replace hs := hs.call0 ho; repeat' (first|refine Nx.h ?_|fail)
        refine dn (k := ?_)
        refine tk 14 hX (k := ?_)
        rw [show (b != 0) = false from by simp [h2]]
        refine tk 15 hX (k := ?_)
        refine tk 16 hX (k := ?_)
        refine tk 17 hX (k := ?_)
        refine dt 18 hX (k := ?_)
        (with_reducible apply xs_call); exact rfl; exact rfl; exact crequest_ret d n _
        rw [f2 h2]
        rintro v w' ⟨rfl, ho⟩; replace hs := hs.call0 ho; repeat' (first|refine Nx.h ?_|fail)
        refine dn (k := ?_)
        refine tk 19 hX (k := ?_)
        refine tk 20 hX (k := ?_)
        refine tk 21 hX (k := ?_)
        refine tk 22 hX (k := ?_)
        refine tk 23 hX (k := ?_)
        refine tk 24 hX (k := ?_)
        refine dt 25 hX (k := ?_)
        (with_reducible apply xs_call); exact rfl; exact rfl; exact ctime_ret c n _
        rw [hc']
        rintro v w' ⟨rfl, ho⟩; replace hs := hs.call0 ho; repeat' (first|refine Nx.h ?_|fail)
        refine dn (k := ?_)
        refine tk 26 hX (k := ?_)
        rw [show (e != 0) = true from by simpa using h3]
        refine tk 27 hX (k := ?_)
        refine pt 28 hX (k := ?_)
        refine pt 29 hX (k := ?_)
        refine pt 30 hX (k := ?_)
        refine pt 31 hX (k := ?_)
        refine tk 32 hX (k := ?_)
        refine tk 33 hX (k := ?_)
        refine tk 34 hX (k := ?_)
        refine tk 35 hX (k := ?_)
        refine tk 36 hX (k := ?_)
        refine tk 38 hX (k := ?_)
        refine tk 39 hX (k := ?_)
        refine dt 37 hX (k := ?_)
        (with_reducible apply xs_call); exact rfl; exact rfl; exact cfweight_ret c n _
        rintro v w' ⟨rfl, ho⟩; replace hs := hs.call0 ho; repeat' (first|refine Nx.h ?_|fail)
        refine dn (k := ?_)
        refine dt 40 hX (k := ?_)
        (with_reducible apply xs_call); exact rfl; exact rfl; exact cfweight_ret d n _
        rintro v w' ⟨rfl, ho⟩; replace hs := hs.call0 ho; repeat' (first|refine Nx.h ?_|fail)
        refine dn (k := ?_)
        refine tk 41 hX (k := ?_)
        rw [show (withinE n 1048576 == withinE n 1048576) = true by simp]
        refine tk 42 hX (k := ?_)
        refine tk 43 hX (k := ?_)
        refine en (k := ?_)
        repeat' (first|refine Nx.h ?_|fail)
        first | refine rt (hq := ?_) | refine rt' (hq := ?_)
        exact ⟨rfl, hs.only0 rfl⟩
    · by_cases h3 : e = 0
      · refine dr [] hs (k := ?_); intro hX w hs
        refine tk 0 hX (k := ?_)
        refine tk 1 hX (k := ?_)
        refine dt 2 hX (k := ?_)
        (with_reducible apply xs_call); exact rfl; exact rfl; exact ccore_ret c k _
        rw [ha]
        rintro v w' ⟨rfl, ho⟩; replace hs := hs.call0 ho; repeat' (first|refine Nx.h ?_|fail)
        refine dn (k := ?_)
        refine tk 3 hX (k := ?_)
        rw [show (a != 0) = true from by simpa using h1]
        refine tk 4 hX (k := ?_)
        refine pt 5 hX (k := ?_)
        refine pt 6 hX (k := ?_)
        refine pt 7 hX (k := ?_)
        refine pt 8 hX (k := ?_)
        refine tk 9 hX (k := ?_)
        refine tk 10 hX (k := ?_)
        refine tk 11 hX (k := ?_)
        refine tk 12 hX (k := ?_)
        refine dt 13 hX (k := ?_)
        (with_reducible apply xs_call); exact rfl; exact rfl; exact crequest_ret c n _
        rw [hb]
        rintro v w' ⟨rfl, ho⟩; replace hs := hs.call0 ho; repeat' (first|refine Nx.h ?_|fail)
        refine dn (k := ?_)
        refine tk 14 hX (k := ?_)
        rw [show (b != 0) = true from by simpa using h2]
        refine tk 15 hX (k := ?_)
        refine pt 16 hX (k := ?_)
        refine pt 17 hX (k := ?_)
        refine pt 18 hX (k := ?_)
        refine pt 19 hX (k := ?_)
        refine tk 20 hX (k := ?_)
        refine tk 21 hX (k := ?_)
        refine tk 22 hX (k := ?_)
        refine tk 23 hX (k := ?_)
        refine tk 24 hX (k := ?_)
        refine dt 25 hX (k := ?_)
        (with_reducible apply xs_call); exact rfl; exact rfl; exact ctime_ret c n _
        rw [hc']
        rintro v w' ⟨rfl, ho⟩; replace hs := hs.call0 ho; repeat' (first|refine Nx.h ?_|fail)
        refine dn (k := ?_)
        refine tk 26 hX (k := ?_)
        rw [show (e != 0) = false from by simp [h3]]
        refine tk 27 hX (k := ?_)
        refine tk 28 hX (k := ?_)
        refine tk 29 hX (k := ?_)
        refine dt 30 hX (k := ?_)
        (with_reducible apply xs_call); exact rfl; exact rfl; exact ctime_ret d n _
        rw [f3 h3]
        rintro v w' ⟨rfl, ho⟩; replace hs := hs.call0 ho; repeat' (first|refine Nx.h ?_|fail)
        refine dn (k := ?_)
        refine tk 31 hX (k := ?_)
        refine tk 32 hX (k := ?_)
        refine tk 33 hX (k := ?_)
        refine tk 34 hX (k := ?_)
        refine tk 35 hX (k := ?_)
        refine tk 36 hX (k := ?_)
        refine tk 38 hX (k := ?_)
        refine tk 39 hX (k := ?_)
        refine dt 37 hX (k := ?_)
        (with_reducible apply xs_call); exact rfl; exact rfl; exact cfweight_ret c n _
        rintro v w' ⟨rfl, ho⟩; replace hs := hs.call0 ho; repeat' (first|refine Nx.h ?_|fail)
        refine dn (k := ?_)
        refine dt 40 hX (k := ?_)
        (with_reducible apply xs_call); exact rfl; exact rfl; exact cfweight_ret d n _
        rintro v w' ⟨rfl, ho⟩; replace hs := hs.call0 ho; repeat' (first|refine Nx.h ?_|fail)
        refine dn (k := ?_)
        refine tk 41 hX (k := ?_)
        rw [show (withinE n 1048576 == withinE n 1048576) = true by simp]
        refine tk 42 hX (k := ?_)
        refine tk 43 hX (k := ?_)
        refine en (k := ?_)
        repeat' (first|refine Nx.h ?_|fail)
        first | refine rt (hq := ?_) | refine rt' (hq := ?_)
        exact ⟨rfl, hs.only0 rfl⟩
      · refine dr [] hs (k := ?_); intro hX w hs
        refine tk 0 hX (k := ?_)
        refine tk 1 hX (k := ?_)
        refine dt 2 hX (k := ?_)
        (with_reducible apply xs_call); exact rfl; exact rfl; exact ccore_ret c k _
        rw [ha]
        rintro v w' ⟨rfl, ho⟩; replace hs := hs.call0 ho; repeat' (first|refine Nx.h ?_|fail)
        refine dn (k := ?_)
        refine tk 3 hX (k := ?_)
        rw [show (a != 0) = true from by simpa using h1]
        refine tk 4 hX (k := ?_)
        refine pt 5 hX (k := ?_)
        refine pt 6 hX (k := ?_)
        refine pt 7 hX (k := ?_)
        refine pt 8 hX (k := ?_)
        refine tk 9 hX (k := ?_)
        refine tk 10 hX (k := ?_)
        refine tk 11 hX (k := ?_)
        refine tk 12 hX (k := ?_)
        refine dt 13 hX (k := ?_)
        (with_reducible apply xs_call); exact rfl; exact rfl; exact crequest_ret c n _
        rw [hb]
        rintro v w' ⟨rfl, ho⟩; replace hs := hs.call0 ho; repeat' (first|refine Nx.h ?_|fail)
        refine dn (k := ?_)
        refine tk 14 hX (k := ?_)
        rw [show (b != 0) = true from by simpa using h2]
        refine tk 15 hX (k := ?_)
        refine pt 16 hX (k := ?_)
        refine pt 17 hX (k := ?_)
        refine pt 18 hX (k := ?_)
        refine pt 19 hX (k := ?_)
        refine tk 20 hX (k := ?_)
        refine tk 21 hX (k := ?_)
        refine tk 22 hX (k := ?_)
        refine tk 23 hX (k := ?_)
        refine tk 24 hX (k := ?_)
        refine dt 25 hX (k := ?_)
        (with_reducible apply xs_call); exact rfl; exact rfl; exact ctime_ret c n _
        rw [hc']
        rintro v w' ⟨rfl, ho⟩; replace hs := hs.call0 ho; repeat' (first|refine Nx.h ?_|fail)
        refine dn (k := ?_)
        refine tk 26 hX (k := ?_)
        rw [show (e != 0) = true from by simpa using h3]
        refine tk 27 hX (k := ?_)
        refine pt 28 hX (k := ?_)
        refine pt 29 hX (k := ?_)
        refine pt 30 hX (k := ?_)
        refine pt 31 hX (k := ?_)
        refine tk 32 hX (k := ?_)
        refine tk 33 hX (k := ?_)
        refine tk 34 hX (k := ?_)
        refine tk 35 hX (k := ?_)
        refine tk 36 hX (k := ?_)
        refine tk 38 hX (k := ?_)
        refine tk 39 hX (k := ?_)
        refine dt 37 hX (k := ?_)
        (with_reducible apply xs_call); exact rfl; exact rfl; exact cfweight_ret c n _
        rintro v w' ⟨rfl, ho⟩; replace hs := hs.call0 ho; repeat' (first|refine Nx.h ?_|fail)
        refine dn (k := ?_)
        refine dt 40 hX (k := ?_)
        (with_reducible apply xs_call); exact rfl; exact rfl; exact cfweight_ret d n _
        rintro v w' ⟨rfl, ho⟩; replace hs := hs.call0 ho; repeat' (first|refine Nx.h ?_|fail)
        refine dn (k := ?_)
        refine tk 41 hX (k := ?_)
        rw [show (withinE n 1048576 == withinE n 1048576) = true by simp]
        refine tk 42 hX (k := ?_)
        refine tk 43 hX (k := ?_)
        refine en (k := ?_)
        repeat' (first|refine Nx.h ?_|fail)
        first | refine rt (hq := ?_) | refine rt' (hq := ?_)
        exact ⟨rfl, hs.only0 rfl⟩
end Go.Proofs.YthablfhijlommaaGreatDoorX

namespace Go.Proofs.YthablfhijlommaaGreatDoor
open Go
theorem pf_laid : laidOutB Tryz.prog = true := by kernel_rfl
theorem pf_maps : mapsRowed Tryz.prog = true := by kernel_rfl
theorem pf_keys : (true == Tryz.prog.plainKeys) = true := by kernel_rfl
theorem pf_heard : Tryz.prog.stopsHeard = true := by kernel_rfl
theorem pf_enter : Tryz.prog.mayEnter = true := by kernel_rfl
theorem pf_lift : (false == Tryz.prog.liftsFinal) = true := by kernel_rfl
theorem pf_make : (Tryz.prog.make == some .cut) = true := by kernel_rfl
theorem and_mk {a b : Bool} (h : a = true) (k : b = true) : (a && b) = true := by rw [h, k]; rfl
end Go.Proofs.YthablfhijlommaaGreatDoor

namespace Go.Proofs.YthablfhijlommaaGreatDoorX
open Go
theorem door_met (os : Os) (args : Array Value) : laidMetH Tryz.prog [("math/bits.deBruijn32tab", YthablfhijlommaaGreatDoor.Rows.laid_math_bits_deBruijn32tab), ("math/bits.deBruijn64tab", YthablfhijlommaaGreatDoor.Rows.laid_math_bits_deBruijn64tab), ("internal/strconv.uint64pow10", YthablfhijlommaaGreatDoor.Rows.laid_internal_strconv_uint64pow10)] ((World.doorLaid Tryz.prog 24 os).forCall (fun _ _ => 0) ⟨#[], args, []⟩).memory :=
  laidMetH_of_parts3 (fuel := 8) (laidMet_of_run' 8 (by kernel_rfl) (by kernel_rfl)) (by kernel_rfl) (by kernel_rfl)
theorem pows_of {W : World} (h : laidMetH Tryz.prog [("math/bits.deBruijn32tab", YthablfhijlommaaGreatDoor.Rows.laid_math_bits_deBruijn32tab), ("math/bits.deBruijn64tab", YthablfhijlommaaGreatDoor.Rows.laid_math_bits_deBruijn64tab), ("internal/strconv.uint64pow10", YthablfhijlommaaGreatDoor.Rows.laid_internal_strconv_uint64pow10)] W) : Pows W := by
  rw [MakeChecks.laidMetH_plain _ _ _ (by kernel_rfl)] at h
  have h2 := h.tail.tail
  exact Lib.tabIs_of_head (g := (Tryz.prog.globalNamed "internal/strconv.uint64pow10").getD 0) (t := 320) (e := 27) (n := 20) (by kernel_rfl) (by kernel_rfl) (by kernel_rfl) (by kernel_rfl) (by kernel_rfl) (by kernel_rfl) h2
end Go.Proofs.YthablfhijlommaaGreatDoorX

namespace Go.Proofs.YthablfhijlommaaGreatDoorX
open Go Go.RowKit Go.ChangeShapes Go.WideShapes Go.ChangeAt
set_option maxRecDepth 100000 in
theorem limitsRise_lifted (os : Os) (started : os.Started) (H : Type) (enc : TypeId × Value → H) :
    ReturnsInHanded {} Tryz.checked os 4 .any (fun w args => (YthablfhijlommaaGreatDoor.Rows.limitsRiseSpec.pre enc Tryz.prog Tryz.f4 [] false w args ∧ laidMetH Tryz.prog [("math/bits.deBruijn32tab", YthablfhijlommaaGreatDoor.Rows.laid_math_bits_deBruijn32tab), ("math/bits.deBruijn64tab", YthablfhijlommaaGreatDoor.Rows.laid_math_bits_deBruijn64tab), ("internal/strconv.uint64pow10", YthablfhijlommaaGreatDoor.Rows.laid_internal_strconv_uint64pow10)] w) ∧ sizedMet enc Tryz.prog Tryz.f4 (OpenSpec.ofChange YthablfhijlommaaGreatDoor.Rows.limitsRiseSpec) false w args) (YthablfhijlommaaGreatDoor.Rows.limitsRiseSpec.post enc Tryz.prog Tryz.f4 false true false false) := by
  refine returnsInHanded_of_change_and (C := Tryz.checked) (X := fun w _ => laidMetH Tryz.prog [("math/bits.deBruijn32tab", YthablfhijlommaaGreatDoor.Rows.laid_math_bits_deBruijn32tab), ("math/bits.deBruijn64tab", YthablfhijlommaaGreatDoor.Rows.laid_math_bits_deBruijn64tab), ("internal/strconv.uint64pow10", YthablfhijlommaaGreatDoor.Rows.laid_internal_strconv_uint64pow10)] w) (fun _ _ _ hh h => h.of_heap hh) own started (by kernel_rfl) Tryz.func4
    (ChangeSpec.witness_shaped (enc := enc) (C := Tryz.checked) (os := os) (X := fun w _ => laidMetH Tryz.prog [("math/bits.deBruijn32tab", YthablfhijlommaaGreatDoor.Rows.laid_math_bits_deBruijn32tab), ("math/bits.deBruijn64tab", YthablfhijlommaaGreatDoor.Rows.laid_math_bits_deBruijn64tab), ("internal/strconv.uint64pow10", YthablfhijlommaaGreatDoor.Rows.laid_internal_strconv_uint64pow10)] w) false (World.doorLaid Tryz.prog 24 os) #[.agg #[.int .i64 0, .int .i64 0, .int .u64 0, .int .u64 0, .int .u64 0], .agg #[.int .i64 0, .int .i64 0, .int .u64 0, .int .u64 0, .int .u64 0], .int .i64 0, .int .u64 0] 8 rfl (World.shaped_of_RefB (by kernel_rfl) (by kernel_rfl)) (by kernel_rfl) (by kernel_rfl) (by kernel_rfl) (door_met os _)) ?_
  intro W base args ds gs before hval0 hW hcnd hsz0 hL _
  have hP := pows_of hL
  have hval : ∀ (j : Nat) t v, Tryz.f4.params[j]? = some t → args[j]? = some v → Value.okWide Tryz.prog W .any base t v := hval0
  have hW' := hW
  obtain ⟨p, q, hA0, hV, rfl, hfz, hnd⟩ := hW
  have hA : DataW.TrodAll enc Tryz.prog W 0 (fun _ => true) true Tryz.f4.params.toList args.toList ds p := hA0
  rw [Tryz.params4] at hA hval
  obtain ⟨v0, vs0, d0, ds0, p0, q0, hargs, rfl, rfl, h0, r0⟩ := trodAll_cons hA
  obtain ⟨v1, vs1, d1, ds1, p1, q1, rfl, rfl, rfl, h1, r1⟩ := trodAll_cons r0
  obtain ⟨v2, vs2, d2, ds2, p2, q2, rfl, rfl, rfl, h2, r2⟩ := trodAll_cons r1
  obtain ⟨v3, vs3, d3, ds3, p3, q3, rfl, rfl, rfl, h3, r3⟩ := trodAll_cons r2
  obtain ⟨rfl, rfl, rfl⟩ := trodAll_nil r3
  obtain rfl : args = #[v0, v1, v2, v3] := by cases args; simp_all
  obtain ⟨rfl, rfl⟩ := trodVars_none hV
  have lt0 : ∀ x ∈ p0, x.block < W.heap.size := by obtain ⟨m, hm⟩ := h0; exact DataW.trod_lt m _ _ _ hm
  have k0 := h0
  obtain ⟨x0, hx0, rfl⟩ := open_cfg (hval 0 _ v0 rfl rfl) k0
  have lt1 : ∀ x ∈ p1, x.block < W.heap.size := by obtain ⟨m, hm⟩ := h1; exact DataW.trod_lt m _ _ _ hm
  have k1 := h1
  obtain ⟨x1, hx1, rfl⟩ := open_cfg (hval 1 _ v1 rfl rfl) k1
  have lt2 : ∀ x ∈ p2, x.block < W.heap.size := by obtain ⟨m, hm⟩ := h2; exact DataW.trod_lt m _ _ _ hm
  have k2 := h2
  obtain ⟨x2, rfl, _, _, w2⟩ := open_int (t := 3) (k := .i64) (by kernel_rfl) (hval 2 _ v2 rfl rfl) k2
  have b2 : (-9223372036854775808 : Int) ≤ x2 ∧ x2 < 9223372036854775808 := by
    have h := int_of w2
    have e1 : IntKind.i64.min = -9223372036854775808 := rfl
    have e2 : IntKind.i64.max = 9223372036854775807 := rfl
    omega
  have lt3 : ∀ x ∈ p3, x.block < W.heap.size := by obtain ⟨m, hm⟩ := h3; exact DataW.trod_lt m _ _ _ hm
  have k3 := h3
  obtain ⟨x3, rfl, _, _, w3⟩ := open_int (t := 27) (k := .u64) (by kernel_rfl) (hval 3 _ v3 rfl rfl) k3
  have b3 : (0 : Int) ≤ x3 ∧ x3 < 18446744073709551616 := by
    have h := int_of w3
    have e1 : IntKind.u64.min = 0 := rfl
    have e2 : IntKind.u64.max = 18446744073709551615 := rfl
    omega
  clear hA0 hval0 hsz0
  refine (ret_calls (by kernel_rfl) (limitsRise_ret x0 x1 x2 x3 W hP)).mono fun e W' ⟨v, he, hv, ho⟩ => ?_
  subst he hv
  have bel := ho.below
  exact ⟨_, rfl, _, _, _, [], _, [], hW', trodAll_mk1 (shut_bool (by kernel_rfl) _), (trodAll_cons_mk (Below.trod laidOut (by kernel_rfl) (of_decide_eq_true (by kernel_rfl)) h0 bel lt0) (trodAll_cons_mk (Below.trod laidOut (by kernel_rfl) (of_decide_eq_true (by kernel_rfl)) h1 bel lt1) (trodAll_cons_mk (Below.trod laidOut (by kernel_rfl) (of_decide_eq_true (by kernel_rfl)) h2 bel lt2) (trodAll_cons_mk (Below.trod laidOut (by kernel_rfl) (of_decide_eq_true (by kernel_rfl)) h3 bel lt3) trodAll_mk0)))), rfl, bel.frame _, fun h => by cases h⟩
end Go.Proofs.YthablfhijlommaaGreatDoorX
namespace Go.Proofs.YthablfhijlommaaGreatDoor
open Go Go.RowKit Go.ChangeShapes Go.WideShapes Go.ChangeAt
theorem limitsRise_nm : Tryz.prog.funcNamed "turnstone/turnstonelaw19.LimitsRise" = some 4 := by kernel_rfl
theorem limitsRise_ip : (Rows.limitsRiseRow.inPlace == Tryz.prog.inPlace 4) = true := by kernel_rfl
theorem limitsRise_un : (Rows.limitsRiseRow.unfollowed == Tryz.prog.unfollowed 4) = true := by kernel_rfl
theorem limitsRise_rc : (Rows.limitsRiseRow.recurses == Tryz.prog.recurses 4) = true := by kernel_rfl
theorem limitsRise_nd : (Rows.limitsRiseRow.named == Tryz.prog.varsNamed 4) = true := by kernel_rfl
theorem limitsRise_holds : Rows.LimitsRiseSaid :=
  OpenClaim.holds_of_wide 4 Tryz.f4 rfl rfl rfl rfl rfl rfl rfl ⟨rfl, rfl, rfl, rfl, rfl⟩ rfl rfl rfl rfl rfl limitsRise_nm Tryz.func4
    (by unfold joinedFacts; exact (and_mk (and_mk (and_mk (and_mk (and_mk (and_mk (and_mk (and_mk (and_mk (and_mk (and_mk (and_mk (and_mk (and_mk (and_mk (and_mk (and_mk (and_mk (and_mk (and_mk (and_mk (and_mk (and_mk (and_mk (and_mk (and_mk (and_mk (and_mk (and_mk (and_mk (and_mk (by kernel_rfl) pf_laid) pf_maps) (by kernel_rfl)) (by kernel_rfl)) (by kernel_rfl)) (by kernel_rfl)) (by kernel_rfl)) (by kernel_rfl)) limitsRise_ip) limitsRise_un) limitsRise_rc) limitsRise_nd) (by kernel_rfl)) (by kernel_rfl)) (by kernel_rfl)) (by kernel_rfl)) (by kernel_rfl)) (by kernel_rfl)) (by kernel_rfl)) (by kernel_rfl)) (by kernel_rfl)) pf_keys) (by kernel_rfl)) pf_heard) pf_enter) pf_lift) pf_make) (by kernel_rfl)) (by kernel_rfl)) (by kernel_rfl)) (by kernel_rfl)))
    (of_decide_eq_true (by kernel_rfl)) (by unfold Func.isWrapper; first | (rw [if_pos (by decide +kernel)]; kernel_rfl) | (rw [if_neg (by decide +kernel)]; exact ⟨rfl, rfl⟩))
    (fun os started H enc _ => YthablfhijlommaaGreatDoorX.limitsRise_lifted os started H enc)
theorem limitsRise_w : Rows.limitsRiseRow.wfByText (OpenSpec.ofChange Rows.limitsRiseSpec) = true := by kernel_rfl
theorem limitsRise_mn : Tryz.prog.mainIs = some (Rows.limitsRiseCard.stood.harness.1, Rows.limitsRiseCard.stood.harness.2.toList) := by kernel_rfl
theorem limitsRise_lk : Rows.limitsRiseCard.stood.looks = Tryz.prog.looks [] := by kernel_rfl
theorem limitsRise_gs : false = Rows.limitsRiseRow.goesBy Tryz.prog := by kernel_rfl
theorem limitsRise_card : Rows.LimitsRiseCardSaid :=
  Claim7.holds_tied_plain_at .later [] [.data, .data, .data] true Rows.limitsRiseCard.stood.harness Rows.limitsRiseCard.stood.looks
    limitsRise_holds (fun _ h => by cases h) limitsRise_w (fun _ h => by cases h) limitsRise_row_tie rfl ⟨rfl, rfl⟩ limitsRise_mn rfl
    (fun f fn hf hfn => by
      obtain rfl : f = 4 := Option.some.inj (limitsRise_nm.symm.trans hf) |>.symm
      obtain rfl : fn = Tryz.f4 := (Option.some.inj (Tryz.func4.symm.trans hfn)).symm
      exact ⟨limitsRise_lk, fun j t ht => by
        rw [Tryz.params4] at ht
        have hm : t ∈ [29, 29, 3, 27] := by simpa using Array.mem_of_getElem? ht
        have hall : ([29, 29, 3, 27].all fun u => !Tryz.prog.wantsStandIn u) = true := by kernel_rfl
        exact (show Tryz.prog.wantsStandIn t = false by simpa using List.all_eq_true.1 hall t hm)⟩)
    limitsRise_gs
end Go.Proofs.YthablfhijlommaaGreatDoor
