/- Proved: of any errors the first one that is not OK is told, or OK if there is none; for every slice of error numbers (at most 100 are looked at) -/
import Derived.Test.YthablfhijlommaaGreatDoorC10
import Derived.Deep.SlicePairs
import Derived.ChangeSlices
import Derived.Test.YthablfhijlommaaGreatDoorRows
import Derived.JoinedOf
import Derived.Test.YthablfhijlommaaGreatDoorTie
import Derived.Lib.LaidTab
import Derived.Stop.LaidErr
import Derived.MakeChecks
import Derived.LaidMore
import Derived.LaidLaws
import Derived.Test.YthablfhijlommaaGreatDoorCards
import Derived.SevenTiedAt
set_option linter.unusedVariables false
set_option linter.unusedSimpArgs false
set_option maxRecDepth 100000
namespace Go.Proofs.YthablfhijlommaaGreatDoorX
open Go Go.RowKit
attribute [local irreducible] XS XC XA thenE blockE retE loopE loopS cutB cutN doneE SE
structure Cf where
  cores : Int
  tasks : Int
  tick : Int
  slice : Int
  origin : Int
def cfv (c : Cf) : Value := .agg #[.int .i64 c.cores, .int .i64 c.tasks, .int .u64 c.tick, .int .u64 c.slice, .int .u64 c.origin]
def Cf.In (c : Cf) : Prop := In64 c.cores ∧ In64 c.tasks ∧ U64 c.tick ∧ U64 c.slice ∧ U64 c.origin
def withinE (n e : Int) : Int := if n < 1 ∨ n > e then 3 else 0
theorem lwithin_ret (n e : Int) (w0 : World) : Ret Tryz.prog 56 #[.int .u64 n, .int .u64 e] w0 fun v w' => v = .int .i64 (withinE n e) ∧ Only [] w0 w' := by
  have hs := St.nil w0
  refine ret_of_xc Tryz.func56 (by kernel_rfl) rfl Tryz.ntmps56 rfl rfl rfl ?_
  repeat' (first|refine Nx.h ?_|fail)
  refine xc_region ?_ ?_; exact rfl
  refine vs (k := ?_)
  repeat' (first|refine Nx.h ?_|fail)
  refine xc_region ?_ ?_; exact rfl
  refine vs (k := ?_)
  refine vs (k := ?_)
  unfold withinE
  by_cases c1 : n < 1
  · rw [decide_eq_true c1, if_pos (.inl c1)]
    repeat' (first|refine vs (k:=?_)|refine ps (k:=?_)|refine qRg ?_|refine Nx.h ?_|refine qCt ?_|fail)
    first | refine rt (hq := ?_) | refine rt' (hq := ?_)
    exact ⟨rfl, hs.only0 rfl⟩
  rw [decide_eq_false c1]
  refine vs (k := ?_)
  refine vs (k := ?_)
  refine vs (k := ?_)
  refine vs (k := ?_)
  by_cases c2 : n > e
  · rw [decide_eq_true c2, if_pos (.inr c2)]
    repeat' (first|refine vs (k:=?_)|refine qRg ?_|refine Nx.h ?_|refine qCt ?_|fail)
    first | refine rt (hq := ?_) | refine rt' (hq := ?_)
    exact ⟨rfl, hs.only0 rfl⟩
  rw [decide_eq_false c2, if_neg (by omega)]
  repeat' (first|refine vs (k:=?_)|refine qRg ?_|refine Nx.h ?_|refine qCf ?_|fail)
  first | refine rt (hq := ?_) | refine rt' (hq := ?_)
  exact ⟨rfl, hs.only0 rfl⟩
def LsX (w : World) (k : Nat) (v : Value) (xs : List (List Value)) : Prop :=
  ∃ ad cap, v = .slice ad xs.length cap ∧ (xs ≠ [] → ∃ (b off : Nat) (cs : List Value) (E : TypeId) (fz : Nat × Nat), ad = some ⟨b, off, none⟩ ∧ w.heap[b]? = some (.cells cs.toArray E fz) ∧ ∀ (i : Nat) x, xs[i]? = some x → Pick cs (off + i * k) k x)
theorem LsX.only {w w' : World} {k : Nat} {v : Value} {xs : List (List Value)} (h : LsX w k v xs) (ho : Only [] w w') : LsX w' k v xs := by
  obtain ⟨ad, cap, rfl, h⟩ := h
  refine ⟨ad, cap, rfl, fun hn => ?_⟩
  obtain ⟨b, off, cs, E, fz, h1, h2, h3⟩ := h hn
  exact ⟨b, off, cs, E, fz, h1, ho.block h2 (by simp), h3⟩
theorem LsAt.x {w : World} {E k : Nat} {v : Value} {xs : List (List Value)} (h : LsAt w E k v xs) : LsX w k v xs := by
  obtain ⟨ad, cap, rfl, h⟩ := h
  refine ⟨ad, cap, rfl, fun hn => ?_⟩
  obtain ⟨b, off, cs, fz, h1, _, h2, h3⟩ := h hn
  exact ⟨b, off, cs, E, fz, h1, h2, h3⟩
def errR (e : Int) : List Value := [.int .i64 e]
def allE : List Int → Int
  | [] => 0
  | e :: l => if e ≠ 0 then e else allE l
theorem allE_drop {l : List Int} {i : Nat} (h : i < l.length) : allE (l.drop i) = if l[i] ≠ 0 then l[i] else allE (l.drop (i + 1)) := by rw [List.drop_eq_getElem_cons h]; rfl
set_option maxHeartbeats 4000000 in
theorem all_ret (l : List Int) (sl : Value) (hm : l.length ≤ 9223372036854775807) (w0 : World) (hL : LsX w0 1 sl (l.map errR)) : Ret Tryz.prog 14 #[sl] w0 fun v w' => v = .int .i64 (allE l) ∧ Only [] w0 w' := by
  obtain ⟨ad, cap, rfl, hD⟩ := hL
  rw [List.length_map] at *
  have hs := St.nil w0
  refine ret_of_xc Tryz.func14 (by kernel_rfl) rfl Tryz.ntmps14 rfl rfl rfl ?_
  repeat' (first|refine vs (k:=?_)|refine qRg ?_|refine Nx.h ?_|fail)
  refine xc_cutB (fun (_ : Unit) => []) (fun _ w => allE l = 0 ∧ Only [] w0 w) ?_ ?_
  · refine xc_loopS (fun (i : Nat) => [(5, .slice ad l.length cap), (6, .int .i64 (l.length : Nat)), (7, .int .i64 (i : Nat))]) (fun i w => i ≤ l.length ∧ allE (l.drop i) = allE l ∧ Only [] w0 w) (fun i => l.length - i) 0 (by (repeat (first | exact agree_nil | (apply agree_cons; exact rfl)))) ⟨Nat.zero_le _, by rw [List.drop_zero], hs.only0 rfl⟩ fun i env wl ⟨hi, he, ho0⟩ => ?_
    clear hs
    have hs := St.nil wl
    repeat' (first|refine vs (k:=?_)|refine qRg ?_|refine Nx.h ?_|(refine xc_if rfl (fun hc=>?_) (fun hc=>?_))|fail)
    · have hlt : i < l.length := by omega
      obtain ⟨b, off, cs, E, fz, rfl, hb, hcs⟩ := hD (fun h => by have := congrArg List.length h; rw [List.length_map, List.length_nil] at this; omega)
      have hpk := hcs i (errR l[i]) (by rw [List.getElem?_map, List.getElem?_eq_getElem hlt]; rfl)
      have ei := nx64 (m := l.length) hlt hm
      rw [allE_drop hlt] at he
      generalize l[i] = q at *
      refine ix (h0 := (by omega)) (h1 := (by omega)) (k := ?_)
      refine lh (ho0.block hb (by simp)) (by cases hpk; assumption) (k := ?_)
      by_cases hq : q = 0
      · subst hq
        rw [if_neg (by simp)] at he
        repeat' (first|refine vs (k:=?_)|refine qRg ?_|refine Nx.h ?_|refine qCf ?_|fail)
        exact loopS_next (i + 1) (by show l.length - (i + 1) < l.length - i; omega) (by (repeat (first | exact agree_nil | (apply agree_cons; first | exact rfl | exact congrArg (Value.int .i64) ei)))) ⟨by show i + 1 ≤ _; omega, he, ho0.trans (hs.only0 rfl)⟩
      · rw [if_pos hq] at he
        repeat' (first|refine vs (k:=?_)|refine qRg ?_|refine Nx.h ?_|(refine xc_cond rfl (fun hc=>?_) (fun hc=>?_))|fail)
        · first | refine rt (hq := ?_) | refine rt' (hq := ?_)
          exact ⟨by rw [← he]; rfl, ho0.trans (hs.only0 rfl)⟩
        · exact absurd (by simpa using hc) hq
    · have e : i = l.length := by omega
      subst e
      rw [List.drop_length] at he
      exact cutB_exit () (by (repeat (first | exact agree_nil | (apply agree_cons; exact rfl)))) ⟨he.symm, ho0⟩
  · rintro _ env w ⟨he, ho0⟩
    clear hs
    have hs := St.nil w
    repeat' (first|refine vs (k:=?_)|refine qRg ?_|refine Nx.h ?_|fail)
    first | refine rt (hq := ?_) | refine rt' (hq := ?_)
    exact ⟨by rw [he]; rfl, ho0.trans (hs.only0 rfl)⟩
def coreE (c : Cf) (k : Int) : Int := if k < 0 ∨ k ≥ c.cores then 5 else 0
theorem ccore_ret (c : Cf) (k : Int) (w0 : World) : Ret Tryz.prog 15 #[cfv c, .int .i64 k] w0 fun v w' => v = .int .i64 (coreE c k) ∧ Only [] w0 w' := by
  have hs := St.nil w0
  refine ret_of_xc Tryz.func15 (by kernel_rfl) rfl Tryz.ntmps15 rfl rfl rfl ?_
  repeat' (first|refine Nx.h ?_|fail)
  refine xc_region ?_ ?_; exact rfl
  refine bx hs (k := ?_); intro b w hz hs
  refine vs (k := ?_)
  repeat' (first|refine Nx.h ?_|fail)
  refine xc_region ?_ ?_; exact rfl
  refine vs (k := ?_)
  refine vs (k := ?_)
  unfold coreE
  by_cases c1 : k < 0
  · rw [decide_eq_true c1, if_pos (.inl c1)]
    repeat' (first|refine vs (k:=?_)|refine ps (k:=?_)|refine qRg ?_|refine Nx.h ?_|refine qCt ?_|fail)
    first | refine rt (hq := ?_) | refine rt' (hq := ?_)
    exact ⟨rfl, hs.only0 rfl⟩
  rw [decide_eq_false c1]
  refine vs (k := ?_)
  refine vs (k := ?_)
  refine vs (k := ?_)
  refine vs (k := ?_)
  refine vs (k := ?_)
  by_cases c2 : c.cores ≤ k
  · rw [decide_eq_true c2, if_pos (.inr c2)]
    repeat' (first|refine vs (k:=?_)|refine qRg ?_|refine Nx.h ?_|refine qCt ?_|fail)
    first | refine rt (hq := ?_) | refine rt' (hq := ?_)
    exact ⟨rfl, hs.only0 rfl⟩
  rw [decide_eq_false c2, if_neg (by omega)]
  repeat' (first|refine vs (k:=?_)|refine qRg ?_|refine Nx.h ?_|refine qCf ?_|fail)
  first | refine rt (hq := ?_) | refine rt' (hq := ?_)
  exact ⟨rfl, hs.only0 rfl⟩
def capN (n : Int) : Int := if 1099511627776 < n then 1099511627776 else n
theorem crequest_ret (c : Cf) (n : Int) (w0 : World) : Ret Tryz.prog 16 #[cfv c, .int .u64 n] w0 fun v w' => v = .int .i64 (withinE n (capN c.slice)) ∧ Only [] w0 w' := by
  have hs := St.nil w0
  refine ret_of_xc Tryz.func16 (by kernel_rfl) rfl Tryz.ntmps16 rfl rfl rfl ?_
  repeat' (first|refine vs (k:=?_)|(refine bx hs (k:=?_);intro b w hz hs)|refine qRg ?_|refine Nx.h ?_|fail)
  (with_reducible apply xs_call); exact rfl; exact rfl; exact lwithin_ret n (capN c.slice) _
  rintro v w' ⟨rfl, ho⟩; replace hs := hs.call0 ho; repeat' (first|refine vs (k:=?_)|refine Nx.h ?_|fail)
  first | refine rt (hq := ?_) | refine rt' (hq := ?_)
  exact ⟨rfl, hs.only0 rfl⟩
theorem ctime_ret (c : Cf) (n : Int) (w0 : World) : Ret Tryz.prog 17 #[cfv c, .int .u64 n] w0 fun v w' => v = .int .i64 (withinE n (capN c.tick)) ∧ Only [] w0 w' := by
  have hs := St.nil w0
  refine ret_of_xc Tryz.func17 (by kernel_rfl) rfl Tryz.ntmps17 rfl rfl rfl ?_
  repeat' (first|refine vs (k:=?_)|(refine bx hs (k:=?_);intro b w hz hs)|refine qRg ?_|refine Nx.h ?_|fail)
  (with_reducible apply xs_call); exact rfl; exact rfl; exact lwithin_ret n (capN c.tick) _
  rintro v w' ⟨rfl, ho⟩; replace hs := hs.call0 ho; repeat' (first|refine vs (k:=?_)|refine Nx.h ?_|fail)
  first | refine rt (hq := ?_) | refine rt' (hq := ?_)
  exact ⟨rfl, hs.only0 rfl⟩
theorem cfweight_ret (c : Cf) (n : Int) (w0 : World) : Ret Tryz.prog 18 #[cfv c, .int .u64 n] w0 fun v w' => v = .int .i64 (withinE n 1048576) ∧ Only [] w0 w' := by
  have hs := St.nil w0
  refine ret_of_xc Tryz.func18 (by kernel_rfl) rfl Tryz.ntmps18 rfl rfl rfl ?_
  repeat' (first|refine vs (k:=?_)|(refine bx hs (k:=?_);intro b w hz hs)|refine qRg ?_|refine Nx.h ?_|fail)
  (with_reducible apply xs_call); exact rfl; exact rfl; exact lwithin_ret n 1048576 _
  rintro v w' ⟨rfl, ho⟩; replace hs := hs.call0 ho; repeat' (first|refine vs (k:=?_)|refine Nx.h ?_|fail)
  first | refine rt (hq := ?_) | refine rt' (hq := ?_)
  exact ⟨rfl, hs.only0 rfl⟩
def keepF (c : Cf) (x s : Int) : Int := clampW x ((winC s c.tick).getD 0)
theorem winC_in (s t : Int) : In64 ((winC s t).getD 0) := by
  unfold winC
  split
  · show In64 ((2 * s + t) * 1048576)
    unfold In64; omega
  · decide
theorem keep_ret (c : Cf) (x s : Int) (hc : c.In) (hx : InW x) (hs0 : U64 s) (w0 : World) : Ret Tryz.prog 19 #[cfv c, wv x, .int .u64 s] w0 fun v w' => v = .int .i64 (keepF c x s) ∧ Only [] w0 w' := by
  have hs := St.nil w0
  refine ret_of_xc Tryz.func19 (by kernel_rfl) rfl Tryz.ntmps19 rfl rfl rfl ?_
  repeat' (first|refine vs (k:=?_)|(refine bx hs (k:=?_);intro b w hz hs)|refine qRg ?_|refine Nx.h ?_|fail)
  (with_reducible apply xs_call); exact rfl; exact rfl; exact window_ret s c.tick hs0 hc.2.2.1 _
  rintro v w' ⟨rfl, ho⟩; replace hs := hs.call0 ho; repeat' (first|refine vs (k:=?_)|refine qRg ?_|refine Nx.h ?_|fail)
  (with_reducible apply xs_call); exact rfl; exact rfl; exact clamp_ret x ((winC s c.tick).getD 0) hx (winC_in _ _) _
  rintro v w' ⟨rfl, ho⟩; replace hs := hs.call0 ho; repeat' (first|refine vs (k:=?_)|refine Nx.h ?_|fail)
  first | refine rt (hq := ?_) | refine rt' (hq := ?_)
  exact ⟨rfl, hs.only0 rfl⟩
def checkF (c : Cf) : Int := if c.cores < 1 ∨ c.tasks < 1 then 3 else allE [withinE c.cores 8, withinE c.tasks 32, withinE c.tick 1099511627776, withinE c.slice 1099511627776]
set_option maxHeartbeats 4000000 in
theorem check_ret (c : Cf) (hc0 : c.In) (w0 : World) : Ret Tryz.prog 21 #[cfv c] w0 fun v w' => v = .int .i64 (checkF c) ∧ Only [] w0 w' := by
  obtain ⟨i1, i2, i3, i4, i5⟩ := hc0
  unfold In64 at i1 i2
  have hs := St.nil w0
  refine ret_of_xc Tryz.func21 (by kernel_rfl) rfl Tryz.ntmps21 rfl rfl rfl ?_
  repeat' (first|refine Nx.h ?_|fail)
  refine xc_region ?_ ?_; exact rfl
  refine bx hs (k := ?_); intro b w hz hs
  refine vs (k := ?_)
  repeat' (first|refine Nx.h ?_|fail)
  refine xc_region ?_ ?_; exact rfl
  refine vs (k := ?_)
  refine vs (k := ?_)
  refine vs (k := ?_)
  unfold checkF
  by_cases c1 : c.cores < 1
  · rw [decide_eq_true c1, if_pos (.inl c1)]
    repeat' (first|refine vs (k:=?_)|refine ps (k:=?_)|refine qRg ?_|refine Nx.h ?_|refine qCt ?_|fail)
    first | refine rt (hq := ?_) | refine rt' (hq := ?_)
    exact ⟨rfl, hs.only0 rfl⟩
  rw [decide_eq_false c1]
  refine vs (k := ?_)
  refine vs (k := ?_)
  refine vs (k := ?_)
  refine vs (k := ?_)
  by_cases c2 : c.tasks < 1
  · rw [decide_eq_true c2, if_pos (.inr c2)]
    repeat' (first|refine vs (k:=?_)|refine qRg ?_|refine Nx.h ?_|refine qCt ?_|fail)
    first | refine rt (hq := ?_) | refine rt' (hq := ?_)
    exact ⟨rfl, hs.only0 rfl⟩
  rw [decide_eq_false c2, if_neg (by omega)]
  repeat' (first|refine vs (k:=?_)|refine Nx.h ?_|refine qCf ?_|fail)
  have e1 : IntKind.u64.wrap c.cores = c.cores := by rw [wrap_u64]; omega
  have e2 : IntKind.u64.wrap c.tasks = c.tasks := by rw [wrap_u64]; omega
  refine dr [] hs (k := ?_); intro hX w hs
  refine tk 0 hX (k := ?_)
  refine tk 1 hX (k := ?_)
  refine tk 2 hX (k := ?_)
  refine tk 4 hX (k := ?_)
  refine tk 5 hX (k := ?_)
  refine tk 6 hX (k := ?_)
  refine tk 8 hX (k := ?_)
  refine tk 9 hX (k := ?_)
  refine tk 11 hX (k := ?_)
  refine tk 12 hX (k := ?_)
  refine dt 3 hX (k := ?_)
  (with_reducible apply xs_call); exact rfl; exact rfl; exact lwithin_ret (IntKind.u64.wrap c.cores) 8 _
  rw [e1]
  rintro v w' ⟨rfl, ho⟩; replace hs := hs.call0 ho; repeat' (first|refine Nx.h ?_|fail)
  refine dn (k := ?_)
  refine dt 7 hX (k := ?_)
  (with_reducible apply xs_call); exact rfl; exact rfl; exact lwithin_ret (IntKind.u64.wrap c.tasks) 32 _
  rw [e2]
  rintro v w' ⟨rfl, ho⟩; replace hs := hs.call0 ho; repeat' (first|refine Nx.h ?_|fail)
  refine dn (k := ?_)
  refine dt 10 hX (k := ?_)
  (with_reducible apply xs_call); exact rfl; exact rfl; exact lwithin_ret c.tick 1099511627776 _
  rintro v w' ⟨rfl, ho⟩; replace hs := hs.call0 ho; repeat' (first|refine Nx.h ?_|fail)
  refine dn (k := ?_)
  refine dt 13 hX (k := ?_)
  (with_reducible apply xs_call); exact rfl; exact rfl; exact lwithin_ret c.slice 1099511627776 _
  rintro v w' ⟨rfl, ho⟩; replace hs := hs.call0 ho; repeat' (first|refine Nx.h ?_|fail)
  refine dn (k := ?_)
  refine dt 14 hX (k := ?_)
  repeat' (first|(refine bs hs (k:=?_);intro b w hz hs)|refine Nx.h ?_|fail)
  refine dn (k := ?_)
  refine dt 15 hX (k := ?_)
  (with_reducible apply xs_call); exact rfl; exact rfl; exact all_ret [withinE c.cores 8, withinE c.tasks 32, withinE c.tick 1099511627776, withinE c.slice 1099511627776] _ (by simp) _ (lit_ls (n := 4) (hs.get At.head) rfl (fun x hx => by obtain ⟨e, _, rfl⟩ := List.mem_map.1 hx; rfl) rfl).x
  rintro v w' ⟨rfl, ho⟩; replace hs := hs.call0 ho; repeat' (first|refine Nx.h ?_|fail)
  refine dn (k := ?_)
  refine tk 16 hX (k := ?_)
  refine en (k := ?_)
  repeat' (first|refine Nx.h ?_|fail)
  first | refine rt (hq := ?_) | refine rt' (hq := ?_)
  exact ⟨rfl, hs.only0 rfl⟩
end Go.Proofs.YthablfhijlommaaGreatDoorX

namespace Go.Proofs.YthablfhijlommaaGreatDoorX
open Go Go.RowKit
attribute [local irreducible] XS XC XA thenE blockE retE loopE loopS cutB cutN doneE SE
set_option maxHeartbeats 4000000 in
theorem awake19_ret (w0 : World) (ht : Pows w0) : Ret Tryz.prog 13 #[] w0 fun v w' => v = .bool true ∧ Only [] w0 w' := by
  have hs := St.nil w0
  refine ret_of_xc Tryz.func13 (by kernel_rfl) rfl Tryz.ntmps13 rfl rfl rfl ?_
  repeat' (first|refine vs (k:=?_)|(refine stA hs (k:=?_);intro w hs)|(refine al hs (k:=?_);intro b w hz hs)|refine qRg ?_|refine Nx.h ?_|fail)
  (with_reducible apply xs_call); exact rfl; exact rfl; exact Awake18_ret _ (tab_only ht (hs.only0 rfl))
  rintro v w' ⟨rfl, ho⟩; replace hs := hs.call0 ho; repeat' (first|refine vs (k:=?_)|fail)
  (with_reducible apply xs_call); exact rfl; exact rfl; exact check_ret ⟨2, 3, 4, 5, 0⟩ (by unfold Cf.In; decide) _
  rw [show checkF ⟨2, 3, 4, 5, 0⟩ = 0 by decide]
  rintro v w' ⟨rfl, ho⟩; replace hs := hs.call0 ho; repeat' (first|refine vs (k:=?_)|fail)
  (with_reducible apply xs_call); exact rfl; exact rfl; exact ccore_ret ⟨2, 3, 4, 5, 0⟩ 2 _
  rw [show coreE ⟨2, 3, 4, 5, 0⟩ 2 = 5 by decide]
  rintro v w' ⟨rfl, ho⟩; replace hs := hs.call0 ho; repeat' (first|refine vs (k:=?_)|fail)
  (with_reducible apply xs_call); exact rfl; exact rfl; exact ccore_ret ⟨2, 3, 4, 5, 0⟩ 1 _
  rw [show coreE ⟨2, 3, 4, 5, 0⟩ 1 = 0 by decide]
  rintro v w' ⟨rfl, ho⟩; replace hs := hs.call0 ho; repeat' (first|refine vs (k:=?_)|refine Nx.h ?_|fail)
  first | refine rt (hq := ?_) | refine rt' (hq := ?_)
  exact ⟨rfl, hs.only0 rfl⟩
theorem Awake19_ret (w0 : World) (ht : Pows w0) : Ret Tryz.prog 65 #[] w0 fun v w' => v = .bool true ∧ Only [] w0 w' := by
  have hs := St.nil w0
  refine ret_of_xc Tryz.func65 (by kernel_rfl) rfl Tryz.ntmps65 rfl rfl rfl ?_
  repeat' (first|refine vs (k:=?_)|refine qRg ?_|refine Nx.h ?_|fail)
  (with_reducible apply xs_call); exact rfl; exact rfl; exact awake19_ret _ (tab_only ht (hs.only0 rfl))
  rintro v w' ⟨rfl, ho⟩; replace hs := hs.call0 ho; repeat' (first|refine vs (k:=?_)|refine Nx.h ?_|fail)
  first | refine rt (hq := ?_) | refine rt' (hq := ?_)
  exact ⟨rfl, hs.only0 rfl⟩
set_option maxHeartbeats 4000000 in
theorem limitsFirst_ret (l : List Int) (sl : Value) (w0 : World) (ht : Pows w0) (hL : LsX w0 1 sl (l.map errR)) : Ret Tryz.prog 3 #[sl] w0 fun v w' => v = .bool true ∧ Only [] w0 w' := by
  have hL0 := hL
  obtain ⟨ad, cap, rfl, hD⟩ := hL
  rw [List.length_map] at hL0 ⊢
  have hs := St.nil w0
  refine ret_of_xc Tryz.func3 (by kernel_rfl) rfl Tryz.ntmps3 rfl rfl rfl ?_
  repeat' (first|refine vs (k:=?_)|refine qRg ?_|refine Nx.h ?_|fail)
  (with_reducible apply xs_call); exact rfl; exact rfl; exact awake19_ret _ (tab_only ht (hs.only0 rfl))
  rintro v w' ⟨rfl, ho⟩; replace hs := hs.call0 ho; repeat' (first|refine vs (k:=?_)|refine qRg ?_|refine Nx.h ?_|refine qCf ?_|(refine xc_if rfl (fun hc=>?_) (fun hc=>?_))|fail)
  · first | refine rt (hq := ?_) | refine rt' (hq := ?_)
    exact ⟨rfl, hs.only0 rfl⟩
  · have hm : l.length ≤ 9223372036854775807 := by omega
    (with_reducible apply xs_call); exact rfl; exact rfl; exact all_ret l _ hm _ (hL0.only (hs.only0 rfl))
    rintro v w1 ⟨rfl, ho1⟩
    have hoA := (hs.only0 rfl).trans ho1
    clear hs
    have hs := St.nil w1
    repeat' (first|refine vs (k:=?_)|refine qRg ?_|refine Nx.h ?_|fail)
    refine xc_cutB (fun (_ : Unit) => [(3, .int .i64 (allE l))]) (fun _ w => allE l = 0 ∧ Only [] w1 w) ?_ ?_
    · refine xc_loopS (fun (i : Nat) => [(3, .int .i64 (allE l)), (13, .slice ad l.length cap), (14, .int .i64 (l.length : Nat)), (15, .int .i64 (i : Nat))]) (fun i w => i ≤ l.length ∧ allE (l.drop i) = allE l ∧ Only [] w1 w) (fun i => l.length - i) 0 (by (repeat (first | exact agree_nil | (apply agree_cons; exact rfl)))) ⟨Nat.zero_le _, by rw [List.drop_zero], hs.only0 rfl⟩ fun i env wl ⟨hi, he, ho0⟩ => ?_
      clear hs
      have hs := St.nil wl
      repeat' (first|refine vs (k:=?_)|refine qRg ?_|refine Nx.h ?_|(refine xc_if rfl (fun hc=>?_) (fun hc=>?_))|fail)
      · have hlt : i < l.length := by omega
        obtain ⟨b, off, cs, E, fz, rfl, hb, hcs⟩ := hD (fun h => by have := congrArg List.length h; rw [List.length_map, List.length_nil] at this; omega)
        have hpk := hcs i (errR l[i]) (by rw [List.getElem?_map, List.getElem?_eq_getElem hlt]; rfl)
        have ei := nx64 (m := l.length) hlt hm
        rw [allE_drop hlt] at he
        generalize l[i] = q at *
        refine ix (h0 := (by omega)) (h1 := (by omega)) (k := ?_)
        refine lh ((hoA.trans ho0).block hb (by simp)) (by cases hpk; assumption) (k := ?_)
        by_cases hq : q = 0
        · subst hq
          rw [if_neg (by simp)] at he
          repeat' (first|refine vs (k:=?_)|refine qRg ?_|refine Nx.h ?_|refine qCf ?_|fail)
          exact loopS_next (i + 1) (by show l.length - (i + 1) < l.length - i; omega) (by (repeat (first | exact agree_nil | (apply agree_cons; first | exact rfl | exact congrArg (Value.int .i64) ei)))) ⟨by show i + 1 ≤ _; omega, he, ho0.trans (hs.only0 rfl)⟩
        · rw [if_pos hq] at he
          rw [← he]
          repeat' (first|refine vs (k:=?_)|refine qRg ?_|refine Nx.h ?_|(refine xc_cond rfl (fun hc=>?_) (fun hc=>?_))|fail)
          · first | refine rt (hq := ?_) | refine rt' (hq := ?_)
            exact ⟨by simp [packed], (hoA.trans ho0).trans (hs.only0 rfl)⟩
          · exact absurd (by simpa using hc) hq
      · have e : i = l.length := by omega
        subst e
        rw [List.drop_length] at he
        exact cutB_exit () (by (repeat (first | exact agree_nil | (apply agree_cons; exact rfl)))) ⟨he.symm, ho0⟩
    · rintro _ env w ⟨he, ho0⟩
      clear hs
      have hs := St.nil w
      rw [he]
      repeat' (first|refine vs (k:=?_)|refine qRg ?_|refine Nx.h ?_|fail)
      first | refine rt (hq := ?_) | refine rt' (hq := ?_)
      exact ⟨rfl, (hoA.trans ho0).trans (hs.only0 rfl)⟩
end Go.Proofs.YthablfhijlommaaGreatDoorX

namespace Go.Proofs.YthablfhijlommaaGreatDoorX
open Go Go.RowKit Go.ChangeShapes Go.WideShapes Go.ChangeAt
def numOf : Value → Int
  | .int _ n => n
  | _ => 0
theorem cell_block {w : World} {a : Addr} {v : Value} (h : w.cell? a = some v) : ∃ cs E fz, w.heap[a.block]? = some (.cells cs E fz) ∧ a.spot = none ∧ cs[a.off]? = some v := by
  unfold World.cell? at h
  split at h
  · rename_i cs E fz hb
    split at h
    · cases h
    · rename_i hs
      exact ⟨cs, E, fz, hb, by simpa using hs, h⟩
  · cases h
theorem cell_of_block {w : World} {a : Addr} {v : Value} {cs : Array Value} {E : TypeId} {fz : Nat × Nat} (h : w.cell? a = some v) (hb : w.heap[a.block]? = some (.cells cs E fz)) : cs[a.off]? = some v := by
  obtain ⟨cs', E', fz', h1, _, h2⟩ := cell_block h
  rw [hb] at h1
  cases h1
  exact h2
theorem addr_add (b o k : Nat) : (⟨b, o, none⟩ : Addr).add k = ⟨b, o + k, none⟩ := by
  unfold Addr.add
  split <;> simp_all
end Go.Proofs.YthablfhijlommaaGreatDoorX

namespace Go.Proofs.YthablfhijlommaaGreatDoorX
open Go Go.RowKit Go.ChangeShapes Go.WideShapes Go.ChangeAt
set_option maxRecDepth 100000 in
theorem open_errs {H : Type} {enc : TypeId × Value → H} {W : World} {r : Reach} {b0 base : Nat} {spare : Nat → Bool} {held : Bool} {v : Value} {d : DataW H} {p : List MemPlace} (hv : Value.okWide Tryz.prog W r b0 22 v)
    (h : DataW.Trod enc Tryz.prog W base spare held 22 v d p) : ∃ xs : List Int, LsX W 1 v (xs.map errR) := by
  obtain ⟨a0, len, cap, rfl⟩ := okWide_slice (e := 24) (by kernel_rfl) hv
  obtain ⟨fuel, hf⟩ := h
  rcases open_ints (e := 24) (k := .i64) (by kernel_rfl) (by kernel_rfl) (by kernel_rfl) hf with ⟨hc, hx⟩ | ⟨a, len', cap', zs, hc, hb, hl, hm, hlen, hx, hall, hwf⟩
  · obtain ⟨rfl, rfl, rfl⟩ : a0 = none ∧ len = 0 ∧ cap = 0 := by injection hc with h1 h2; injection h1 with h1 h2 h3; exact ⟨h1, h2, h3⟩
    exact ⟨[], none, 0, rfl, fun h => absurd rfl h⟩
  · obtain ⟨rfl, rfl, rfl⟩ : a0 = some a ∧ len = len' ∧ cap = cap' := by injection hc with h1 h2; injection h1 with h1 h2 h3; exact ⟨h1, h2, h3⟩
    have hlz : len ≤ zs.length := by rw [hlen]; split <;> omega
    refine ⟨zs.take len, some a, cap, by rw [List.length_map, List.length_take, Nat.min_eq_left hlz], fun hn => ?_⟩
    have h0 : 0 < len := by
      rcases Nat.eq_zero_or_pos len with h0 | h0
      · subst h0; exact absurd (by simp) hn
      · exact h0
    obtain ⟨cs, E, fz, hb', hsp, _⟩ := cell_block (hall 0 (by omega))
    obtain ⟨ab, ao, asp⟩ := a
    have e0 : (⟨ab, ao, asp⟩ : Addr).add 0 = ⟨ab, ao, asp⟩ := by simp [Addr.add]
    rw [e0] at hb' hsp
    obtain rfl : asp = none := hsp
    refine ⟨ab, ao, cs.toList, E, fz, rfl, by simpa using hb', fun i x hx => ?_⟩
    rw [List.getElem?_map] at hx
    obtain ⟨z, hz, rfl⟩ : ∃ z, (zs.take len)[i]? = some z ∧ errR z = x := by
      cases hq : (zs.take len)[i]? with
      | none => rw [hq] at hx; cases hx
      | some z => rw [hq] at hx; exact ⟨z, rfl, Option.some.inj hx⟩
    rw [List.getElem?_take] at hz
    split at hz
    · rename_i hi
      have g0 := hall i (by omega)
      rw [addr_add] at g0
      have := cell_of_block g0 hb'
      have e1 : zs.getD i 0 = z := by rw [List.getD_eq_getElem?_getD, hz]; rfl
      rw [e1] at this
      exact Pick.cons (by simpa using this) Pick.nil
    · cases hz
end Go.Proofs.YthablfhijlommaaGreatDoorX

namespace Go.Proofs.YthablfhijlommaaGreatDoor
open Go
theorem pf_laid : laidOutB Tryz.prog = true := by kernel_rfl
theorem pf_maps : mapsRowed Tryz.prog = true := by kernel_rfl
theorem pf_keys : (true == Tryz.prog.plainKeys) = true := by kernel_rfl
theorem pf_heard : Tryz.prog.stopsHeard = true := by kernel_rfl
theorem pf_enter : Tryz.prog.mayEnter = true := by kernel_rfl
theorem pf_lift : (false == Tryz.prog.liftsFinal) = true := by kernel_rfl
theorem pf_make : (Tryz.prog.make == some .cut) = true := by kernel_rfl
theorem and_mk {a b : Bool} (h : a = true) (k : b = true) : (a && b) = true := by rw [h, k]; rfl
end Go.Proofs.YthablfhijlommaaGreatDoor

namespace Go.Proofs.YthablfhijlommaaGreatDoorX
open Go
theorem door_met (os : Os) (args : Array Value) : laidMetH Tryz.prog [("math/bits.deBruijn32tab", YthablfhijlommaaGreatDoor.Rows.laid_math_bits_deBruijn32tab), ("math/bits.deBruijn64tab", YthablfhijlommaaGreatDoor.Rows.laid_math_bits_deBruijn64tab), ("internal/strconv.uint64pow10", YthablfhijlommaaGreatDoor.Rows.laid_internal_strconv_uint64pow10)] ((World.doorLaid Tryz.prog 24 os).forCall (fun _ _ => 0) ⟨#[], args, []⟩).memory :=
  laidMetH_of_parts3 (fuel := 8) (laidMet_of_run' 8 (by kernel_rfl) (by kernel_rfl)) (by kernel_rfl) (by kernel_rfl)
theorem pows_of {W : World} (h : laidMetH Tryz.prog [("math/bits.deBruijn32tab", YthablfhijlommaaGreatDoor.Rows.laid_math_bits_deBruijn32tab), ("math/bits.deBruijn64tab", YthablfhijlommaaGreatDoor.Rows.laid_math_bits_deBruijn64tab), ("internal/strconv.uint64pow10", YthablfhijlommaaGreatDoor.Rows.laid_internal_strconv_uint64pow10)] W) : Pows W := by
  rw [MakeChecks.laidMetH_plain _ _ _ (by kernel_rfl)] at h
  have h2 := h.tail.tail
  exact Lib.tabIs_of_head (g := (Tryz.prog.globalNamed "internal/strconv.uint64pow10").getD 0) (t := 320) (e := 27) (n := 20) (by kernel_rfl) (by kernel_rfl) (by kernel_rfl) (by kernel_rfl) (by kernel_rfl) (by kernel_rfl) h2
end Go.Proofs.YthablfhijlommaaGreatDoorX

namespace Go.Proofs.YthablfhijlommaaGreatDoorX
open Go Go.RowKit Go.ChangeShapes Go.WideShapes Go.ChangeAt
set_option maxRecDepth 100000 in
theorem limitsFirst_lifted (os : Os) (started : os.Started) (H : Type) (enc : TypeId × Value → H) :
    ReturnsInHanded {} Tryz.checked os 3 .any (fun w args => (YthablfhijlommaaGreatDoor.Rows.limitsFirstSpec.pre enc Tryz.prog Tryz.f3 [] false w args ∧ laidMetH Tryz.prog [("math/bits.deBruijn32tab", YthablfhijlommaaGreatDoor.Rows.laid_math_bits_deBruijn32tab), ("math/bits.deBruijn64tab", YthablfhijlommaaGreatDoor.Rows.laid_math_bits_deBruijn64tab), ("internal/strconv.uint64pow10", YthablfhijlommaaGreatDoor.Rows.laid_internal_strconv_uint64pow10)] w) ∧ sizedMet enc Tryz.prog Tryz.f3 (OpenSpec.ofChange YthablfhijlommaaGreatDoor.Rows.limitsFirstSpec) false w args) (YthablfhijlommaaGreatDoor.Rows.limitsFirstSpec.post enc Tryz.prog Tryz.f3 false true false false) := by
  refine returnsInHanded_of_change_and (C := Tryz.checked) (X := fun w _ => laidMetH Tryz.prog [("math/bits.deBruijn32tab", YthablfhijlommaaGreatDoor.Rows.laid_math_bits_deBruijn32tab), ("math/bits.deBruijn64tab", YthablfhijlommaaGreatDoor.Rows.laid_math_bits_deBruijn64tab), ("internal/strconv.uint64pow10", YthablfhijlommaaGreatDoor.Rows.laid_internal_strconv_uint64pow10)] w) (fun _ _ _ hh h => h.of_heap hh) own started (by kernel_rfl) Tryz.func3
    (ChangeSpec.witness_shaped (enc := enc) (C := Tryz.checked) (os := os) (X := fun w _ => laidMetH Tryz.prog [("math/bits.deBruijn32tab", YthablfhijlommaaGreatDoor.Rows.laid_math_bits_deBruijn32tab), ("math/bits.deBruijn64tab", YthablfhijlommaaGreatDoor.Rows.laid_math_bits_deBruijn64tab), ("internal/strconv.uint64pow10", YthablfhijlommaaGreatDoor.Rows.laid_internal_strconv_uint64pow10)] w) false (World.doorLaid Tryz.prog 24 os) #[.slice none 0 0] 8 rfl (World.shaped_of_RefB (by kernel_rfl) (by kernel_rfl)) (by kernel_rfl) (by kernel_rfl) (by kernel_rfl) (door_met os _)) ?_
  intro W base args ds gs before hval0 hW hcnd hsz0 hL _
  have hP := pows_of hL
  have hval : ∀ (j : Nat) t v, Tryz.f3.params[j]? = some t → args[j]? = some v → Value.okWide Tryz.prog W .any base t v := hval0
  have hW' := hW
  obtain ⟨p, q, hA0, hV, rfl, hfz, hnd⟩ := hW
  have hA : DataW.TrodAll enc Tryz.prog W 0 (fun _ => true) true Tryz.f3.params.toList args.toList ds p := hA0
  rw [Tryz.params3] at hA hval
  obtain ⟨v0, vs0, d0, ds0, p0, q0, hargs, rfl, rfl, h0, r0⟩ := trodAll_cons hA
  obtain ⟨rfl, rfl, rfl⟩ := trodAll_nil r0
  obtain rfl : args = #[v0] := by cases args; simp_all
  obtain ⟨rfl, rfl⟩ := trodVars_none hV
  have lt0 : ∀ x ∈ p0, x.block < W.heap.size := by obtain ⟨m, hm⟩ := h0; exact DataW.trod_lt m _ _ _ hm
  have k0 := h0
  obtain ⟨x0, hw0⟩ := open_errs (hval 0 _ v0 rfl rfl) k0
  clear hA0 hval0 hsz0
  refine (ret_calls (by kernel_rfl) (limitsFirst_ret x0 v0 W hP hw0)).mono fun e W' ⟨v, he, hv, ho⟩ => ?_
  subst he hv
  have bel := ho.below
  exact ⟨_, rfl, _, _, _, [], _, [], hW', trodAll_mk1 (shut_bool (by kernel_rfl) _), (trodAll_cons_mk (Below.trod laidOut (by kernel_rfl) (of_decide_eq_true (by kernel_rfl)) h0 bel lt0) trodAll_mk0), rfl, bel.frame _, fun h => by cases h⟩
end Go.Proofs.YthablfhijlommaaGreatDoorX
namespace Go.Proofs.YthablfhijlommaaGreatDoor
open Go Go.RowKit Go.ChangeShapes Go.WideShapes Go.ChangeAt
theorem limitsFirst_nm : Tryz.prog.funcNamed "turnstone/turnstonelaw19.LimitsFirst" = some 3 := by kernel_rfl
theorem limitsFirst_ip : (Rows.limitsFirstRow.inPlace == Tryz.prog.inPlace 3) = true := by kernel_rfl
theorem limitsFirst_un : (Rows.limitsFirstRow.unfollowed == Tryz.prog.unfollowed 3) = true := by kernel_rfl
theorem limitsFirst_rc : (Rows.limitsFirstRow.recurses == Tryz.prog.recurses 3) = true := by kernel_rfl
theorem limitsFirst_nd : (Rows.limitsFirstRow.named == Tryz.prog.varsNamed 3) = true := by kernel_rfl
theorem limitsFirst_holds : Rows.LimitsFirstSaid :=
  OpenClaim.holds_of_wide 3 Tryz.f3 rfl rfl rfl rfl rfl rfl rfl ⟨rfl, rfl, rfl, rfl, rfl⟩ rfl rfl rfl rfl rfl limitsFirst_nm Tryz.func3
    (by unfold joinedFacts; exact (and_mk (and_mk (and_mk (and_mk (and_mk (and_mk (and_mk (and_mk (and_mk (and_mk (and_mk (and_mk (and_mk (and_mk (and_mk (and_mk (and_mk (and_mk (and_mk (and_mk (and_mk (and_mk (and_mk (and_mk (and_mk (and_mk (and_mk (and_mk (and_mk (and_mk (and_mk (by kernel_rfl) pf_laid) pf_maps) (by kernel_rfl)) (by kernel_rfl)) (by kernel_rfl)) (by kernel_rfl)) (by kernel_rfl)) (by kernel_rfl)) limitsFirst_ip) limitsFirst_un) limitsFirst_rc) limitsFirst_nd) (by kernel_rfl)) (by kernel_rfl)) (by kernel_rfl)) (by kernel_rfl)) (by kernel_rfl)) (by kernel_rfl)) (by kernel_rfl)) (by kernel_rfl)) (by kernel_rfl)) pf_keys) (by kernel_rfl)) pf_heard) pf_enter) pf_lift) pf_make) (by kernel_rfl)) (by kernel_rfl)) (by kernel_rfl)) (by kernel_rfl)))
    (of_decide_eq_true (by kernel_rfl)) (by unfold Func.isWrapper; first | (rw [if_pos (by decide +kernel)]; kernel_rfl) | (rw [if_neg (by decide +kernel)]; exact ⟨rfl, rfl⟩))
    (fun os started H enc _ => YthablfhijlommaaGreatDoorX.limitsFirst_lifted os started H enc)
theorem limitsFirst_w : Rows.limitsFirstRow.wfByText (OpenSpec.ofChange Rows.limitsFirstSpec) = true := by kernel_rfl
theorem limitsFirst_mn : Tryz.prog.mainIs = some (Rows.limitsFirstCard.stood.harness.1, Rows.limitsFirstCard.stood.harness.2.toList) := by kernel_rfl
theorem limitsFirst_lk : Rows.limitsFirstCard.stood.looks = Tryz.prog.looks [] := by kernel_rfl
theorem limitsFirst_gs : false = Rows.limitsFirstRow.goesBy Tryz.prog := by kernel_rfl
theorem limitsFirst_card : Rows.LimitsFirstCardSaid :=
  Claim7.holds_tied_plain_at .later [] [.data, .data, .data] true Rows.limitsFirstCard.stood.harness Rows.limitsFirstCard.stood.looks
    limitsFirst_holds (fun _ h => by cases h) limitsFirst_w (fun _ h => by cases h) limitsFirst_row_tie rfl ⟨rfl, rfl⟩ limitsFirst_mn rfl
    (fun f fn hf hfn => by
      obtain rfl : f = 3 := Option.some.inj (limitsFirst_nm.symm.trans hf) |>.symm
      obtain rfl : fn = Tryz.f3 := (Option.some.inj (Tryz.func3.symm.trans hfn)).symm
      exact ⟨limitsFirst_lk, fun j t ht => by
        rw [Tryz.params3] at ht
        have hm : t ∈ [22] := by simpa using Array.mem_of_getElem? ht
        have hall : ([22].all fun u => !Tryz.prog.wantsStandIn u) = true := by kernel_rfl
        exact (show Tryz.prog.wantsStandIn t = false by simpa using List.all_eq_true.1 hall t hm)⟩)
    limitsFirst_gs
end Go.Proofs.YthablfhijlommaaGreatDoor
