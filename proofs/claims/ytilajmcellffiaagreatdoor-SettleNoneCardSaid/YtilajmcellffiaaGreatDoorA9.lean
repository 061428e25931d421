/- Proved: settling a nil set leaves nothing and names nobody; no arguments -/
import Derived.Test.YtilajmcellffiaaGreatDoorA8
import Derived.Test.YtilajmcellffiaaGreatDoorRows
import Derived.JoinedOf
import Derived.Test.YtilajmcellffiaaGreatDoorTie
import Derived.Lib.LaidTab
import Derived.Stop.LaidErr
import Derived.MakeChecks
import Derived.LaidMore
import Derived.LaidLaws
import Derived.Test.YtilajmcellffiaaGreatDoorCards
import Derived.SevenTiedAt
set_option linter.unusedVariables false
set_option linter.unusedSimpArgs false
set_option maxRecDepth 100000
namespace Go.Proofs.YtilajmcellffiaaGreatDoorX
open Go Go.RowKit
open IB (IT ITsAt flatT)
attribute [local irreducible] XS XC XA thenE blockE retE loopE loopS cutB cutN doneE SE
abbrev RsAt (w : World) (v : Value) (l : List RT) : Prop := LsAt w 31 10 v (l.map fun a => a.1.cells)
theorem rs_of {w : World} {v : Value} {l : List RT} {G : List Nat} (h : SlV w 31 10 v l.length (flatR l) G) : RsAt w v l :=
  h.ls rfl (by simp) (fun x hx => by obtain ⟨a, _, rfl⟩ := List.mem_map.1 hx; rfl)
def runN (l : List RT) : Nat := (l.filter fun a => !a.1.asleep).length
theorem runN_app (a b : List RT) : runN (a ++ b) = runN a + runN b := by simp [runN, List.filter_append]
theorem runN_le (l : List RT) : runN l ≤ l.length := List.length_filter_le _ _
set_option maxHeartbeats 2000000 in
theorem runnable_ret (sb : Nat) (s : Ss) (F : List Nat) (w0 : World) (h : SAt w0 sb s F) (hn : s.l.length ≤ 1000000) :
    Ret Tryz.prog 20 #[.pointer (some ⟨sb, 0, none⟩)] w0 fun v w' => v = .int .i64 (runN s.l : Nat) ∧ Only [] w0 w' := by
  have hs := St.nil w0
  refine ret_of_xc Tryz.func20 (by kernel_rfl) rfl Tryz.ntmps20 rfl rfl rfl ?_
  repeat' (first|refine vs (k:=?_)|refine qRg ?_|refine Nx.h ?_|fail)
  have ho := hs.only0 rfl
  (with_reducible apply xs_call); exact rfl; exact rfl; exact reqs_ret sb s F _ (h.only ho) hn
  rintro v2 w2 ⟨⟨G, hG, _⟩, ho2⟩
  obtain ⟨ad, cap, rfl, hD⟩ := rs_of hG
  rw [List.length_map]
  rw [List.length_map] at hD
  have hoA := ho.trans ho2
  clear hs
  have hs := St.nil w2
  repeat' (first|refine vs (k:=?_)|refine Nx.h ?_|fail)
  refine xc_cutB (fun (_ : Unit) => [(3, .int .i64 (runN s.l : Nat))]) (fun _ w => Only [] w2 w) ?_ ?_
  · refine xc_loopS (fun (x : Nat) => [(3, .int .i64 (runN (s.l.take x) : Nat)), (7, .slice ad s.l.length cap), (8, .int .i64 (s.l.length : Nat)), (9, .int .i64 (x : Nat))])
      (fun x w => x ≤ s.l.length ∧ Only [] w2 w) (fun x => s.l.length - x) 0 (by (repeat (first | exact agree_nil | (apply agree_cons; exact rfl)))) ⟨Nat.zero_le _, hs.only0 rfl⟩ fun i env wl ⟨hi, ho0⟩ => ?_
    clear hs
    have hs := St.nil wl
    repeat' (first|refine vs (k:=?_)|refine qRg ?_|refine Nx.h ?_|(refine xc_if rfl (fun hc=>?_) (fun hc=>?_))|fail)
    · have hlt : i < s.l.length := by omega
      obtain ⟨b, off, cs, fz, rfl, _, hb, hcs⟩ := hD (fun h => by rw [List.map_eq_nil_iff.1 h] at hlt; cases hlt)
      have hpk := hcs i (Rq.cells s.l[i].1) (by rw [List.getElem?_map, List.getElem?_eq_getElem hlt]; rfl)
      have ei := nx64 (m := s.l.length) hlt (by omega)
      have et : runN (s.l.take (i + 1)) = runN (s.l.take i) + bif s.l[i].1.asleep then 0 else 1 := by rw [take_next hlt, runN_app]; congr 1; unfold runN; rw [List.filter_cons, List.filter_nil]; cases s.l[i].1.asleep <;> rfl
      have hle := runN_le (s.l.take i)
      rw [List.length_take] at hle
      have ec := nx64 (i := runN (s.l.take i)) (m := s.l.length + 1) (by omega) (by omega)
      generalize s.l[i] = q at *
      refine ix (h0 := (by omega)) (h1 := (by omega)) (k := ?_)
      refine lhK (ho0.block hb (by simp)) hpk (k := ?_)
      refine al hs (k := ?_); intro b8 w8 hz hs
      repeat' (first|refine vs (k:=?_)|(refine stA hs (k:=?_);intro w hs)|refine qRg ?_|refine Nx.h ?_|(refine xc_cond rfl (fun hc=>?_) (fun hc=>?_))|fail)
      · have eq : q.1.asleep = false := by simpa using ‹(!q.1.asleep) = true›
        rw [eq] at et
        refine loopS_next (i + 1) (by show s.l.length - (i + 1) < s.l.length - i; omega) ?_ ⟨by show i + 1 ≤ _; omega, ho0.trans (hs.only0 rfl)⟩
        rw [et]
        (repeat (first | exact agree_nil | (apply agree_cons; first | exact rfl | exact congrArg (Value.int .i64) ei | exact congrArg (Value.int .i64) ec)))
      · have eq : q.1.asleep = true := by simpa using ‹(!q.1.asleep) = false›
        rw [eq] at et
        refine loopS_next (i + 1) (by show s.l.length - (i + 1) < s.l.length - i; omega) ?_ ⟨by show i + 1 ≤ _; omega, ho0.trans (hs.only0 rfl)⟩
        rw [et]
        (repeat (first | exact agree_nil | (apply agree_cons; first | exact rfl | exact congrArg (Value.int .i64) ei)))
    · have e : i = s.l.length := by omega
      subst e
      rw [List.take_length]
      exact cutB_exit () (by (repeat (first | exact agree_nil | (apply agree_cons; exact rfl)))) ho0
  · rintro _ env w ho0
    clear hs
    have hs := St.nil w
    repeat' (first|refine vs (k:=?_)|refine qRg ?_|refine Nx.h ?_|fail)
    first | refine rt (hq := ?_) | refine rt' (hq := ?_)
    exact ⟨rfl, (hoA.trans ho0).trans (hs.only0 rfl)⟩
theorem runnable_nil (w0 : World) : Ret Tryz.prog 20 #[.pointer none] w0 fun v w' => v = .int .i64 0 ∧ Only [] w0 w' := by
  have hs := St.nil w0
  refine ret_of_xc Tryz.func20 (by kernel_rfl) rfl Tryz.ntmps20 rfl rfl rfl ?_
  repeat' (first|refine vs (k:=?_)|refine qRg ?_|refine Nx.h ?_|fail)
  (with_reducible apply xs_call); exact rfl; exact rfl; exact reqs_nil _
  rintro v w' ⟨rfl, ho⟩; replace hs := hs.call0 ho; repeat' (first|refine vs (k:=?_)|refine Nx.h ?_|fail)
  refine xc_cutB (fun (_ : Unit) => [(3, .int .i64 0)]) (fun _ w => Only [] w0 w) ?_ ?_
  · refine xc_loopS (fun (x : Unit) => [(3, .int .i64 0), (8, .int .i64 (0 : Nat)), (9, .int .i64 0)]) (fun x w => Only [] w0 w) (fun x => 0) () (by (repeat (first | exact agree_nil | (apply agree_cons; exact rfl)))) (hs.only0 rfl) fun i env wl ho0 => ?_
    clear hs
    have hs := St.nil wl
    repeat' (first|refine vs (k:=?_)|refine qRg ?_|refine Nx.h ?_|refine qCf ?_|fail)
    exact cutB_exit () (by (repeat (first | exact agree_nil | (apply agree_cons; exact rfl)))) ho0
  · rintro _ env w ho0
    clear hs
    have hs := St.nil w
    repeat' (first|refine vs (k:=?_)|refine qRg ?_|refine Nx.h ?_|fail)
    first | refine rt (hq := ?_) | refine rt' (hq := ?_)
    exact ⟨rfl, ho0.trans (hs.only0 rfl)⟩
end Go.Proofs.YtilajmcellffiaaGreatDoorX

namespace Go.Proofs.YtilajmcellffiaaGreatDoorX
open Go Go.RowKit
open IB (IT ITsAt flatT)
attribute [local irreducible] XS XC XA thenE blockE retE loopE loopS cutB cutN doneE SE
def rk : RT := ⟨⟨⟨⟨3, 0, 1⟩, 1, ⟨5242883, 0, 1⟩⟩, 5, 5, false⟩, by decide⟩
theorem k1 : newR ⟨3, 0, 1⟩ 1 5 = some rk.1 := by kernel_rfl
theorem k2 : enterE (newS 0) rk = 0 := by kernel_rfl
theorem k3 : (enterS (newS 0) rk).l = [rk] := by kernel_rfl
theorem k4 : (rouseS (enterS (newS 0) rk) 1 true).l = [wakeR rk true] := by kernel_rfl
theorem k5 : rouseE (enterS (newS 0) rk) 1 = 0 := by kernel_rfl
set_option maxHeartbeats 4000000 in
theorem awake16_ret (w0 : World) (ht : Pows w0) : Ret Tryz.prog 12 #[] w0 fun v w' => v = .bool true ∧ Only [] w0 w' := by
  have hs := St.nil w0
  refine ret_of_xc Tryz.func12 (by kernel_rfl) rfl Tryz.ntmps12 rfl rfl rfl ?_
  repeat' (first|refine vs (k:=?_)|refine qRg ?_|refine Nx.h ?_|fail)
  (with_reducible apply xs_call); exact rfl; exact rfl; exact snew_ret 0 (by decide) _
  rintro v w1 ⟨⟨sb, F0, rfl, hS, hF0⟩, ho1⟩
  have hF0 : ∀ k ∈ F0, w0.heap.size ≤ k := fun k hk => by have := hF0 k hk; have := hs.size; omega
  have hz1 := ho1.size
  have hq := hs.call0 ho1
  have ho1' := hq.only0 rfl
  clear hs hq
  have hs := St.nil w1
  repeat' (first|refine vs (k:=?_)|refine qRg ?_|refine Nx.h ?_|fail)
  (with_reducible apply xs_call); exact rfl; exact rfl; exact runnable_ret sb (newS 0) F0 _ hS (by decide)
  rw [show runN (newS 0).l = 0 from rfl]
  rintro v w2 ⟨rfl, ho2⟩; replace hs := hs.call0 ho2
  repeat' (first|refine vs (k:=?_)|refine qRg ?_|refine Nx.h ?_|refine qCf ?_|fail)
  (with_reducible apply xs_call); exact rfl; exact rfl; exact rnew_ret ⟨3, 0, 1⟩ 1 5 (by decide) (by decide) (by decide) _
  rw [k1]
  rintro v w' ⟨rfl, ho⟩; replace hs := hs.call0 ho; repeat' (first|refine vs (k:=?_)|(refine stA hs (k:=?_);intro w hs)|(refine al hs (k:=?_);intro b w hz hs)|refine qRg ?_|refine Nx.h ?_|fail)
  have hSw := hS.only (hs.only0 rfl)
  have hzw := hs.size
  (with_reducible apply xs_call); exact rfl; exact rfl; exact enter_ret sb (newS 0) F0 rk _ hSw (by decide) (by decide) (by decide)
  rw [k2]
  rintro v w3 ⟨rfl, F1, hS3, hF1, ho3⟩
  replace hs := hs.call ho3 (hSw.apart hs rfl) (by simp [D0])
  have hF1' : ∀ k ∈ F1, w0.heap.size ≤ k := fun k hk => by
    rcases hF1 k hk with h | h
    · exact hF0 k h
    · omega
  have hm : ∀ w', Only (F0 ++ []) w1 w' → Only [] w0 w' := fun w' ho => ho1'.step ho (fun k hk => by
    rw [List.append_nil] at hk
    exact .inr (hF0 k hk))
  have hm2 : ∀ w', Only (F1 ++ (F0 ++ [])) w1 w' → Only [] w0 w' := fun w' ho => ho1'.step ho (fun k hk => by
    rw [List.append_nil, List.mem_append] at hk
    rcases hk with hk | hk
    · exact .inr (hF1' k hk)
    · exact .inr (hF0 k hk))
  have e3 := k3
  have e4 := k4
  have e5 := k5
  generalize enterS (newS 0) rk = s1 at *
  repeat' (first|refine vs (k:=?_)|refine qRg ?_|refine Nx.h ?_|fail)
  (with_reducible apply xs_call); exact rfl; exact rfl; exact Awake15_ret _ (tab_only ht (hm _ hs.only))
  rintro v w4 ⟨rfl, ho4⟩; replace hS3 := hS3.only ho4; replace hs := hs.call0 ho4
  repeat' (first|refine vs (k:=?_)|fail)
  (with_reducible apply xs_call); exact rfl; exact rfl; exact runnable_ret sb s1 F1 _ hS3 (by rw [e3]; decide)
  rw [e3, show runN [rk] = 1 from rfl]
  rintro v w5 ⟨rfl, ho5⟩; replace hS3 := hS3.only ho5; replace hs := hs.call0 ho5
  repeat' (first|refine vs (k:=?_)|fail)
  (with_reducible apply xs_call); exact rfl; exact rfl; exact rouse_ret sb s1 F1 1 true _ hS3 (by decide) (by rw [e3]; decide)
  rw [e5]
  rintro v w6 ⟨rfl, hS6, ho6⟩
  replace hs := hs.call ho6 (hS3.apart hs rfl) (by simp [D0])
  repeat' (first|refine vs (k:=?_)|fail)
  (with_reducible apply xs_call); exact rfl; exact rfl; exact runnable_ret sb (rouseS s1 1 true) F1 _ hS6 (by rw [e4]; decide)
  rw [e4, show runN [wakeR rk true] = 0 from rfl]
  rintro v w7 ⟨rfl, ho7⟩; replace hs := hs.call0 ho7
  repeat' (first|refine vs (k:=?_)|refine Nx.h ?_|fail)
  first | refine rt (hq := ?_) | refine rt' (hq := ?_)
  exact ⟨rfl, hm2 _ hs.only⟩
theorem Awake16_ret (w0 : World) (ht : Pows w0) : Ret Tryz.prog 71 #[] w0 fun v w' => v = .bool true ∧ Only [] w0 w' := by
  have hs := St.nil w0
  refine ret_of_xc Tryz.func71 (by kernel_rfl) rfl Tryz.ntmps71 rfl rfl rfl ?_
  repeat' (first|refine vs (k:=?_)|refine qRg ?_|refine Nx.h ?_|fail)
  (with_reducible apply xs_call); exact rfl; exact rfl; exact awake16_ret _ ht
  rintro v w' ⟨rfl, ho⟩; replace hs := hs.call0 ho; repeat' (first|refine vs (k:=?_)|refine Nx.h ?_|fail)
  first | refine rt (hq := ?_) | refine rt' (hq := ?_)
  exact ⟨rfl, hs.only0 rfl⟩
end Go.Proofs.YtilajmcellffiaaGreatDoorX

namespace Go.Proofs.YtilajmcellffiaaGreatDoorX
open Go Go.RowKit
open IB (IT ITsAt flatT)
attribute [local irreducible] XS XC XA thenE blockE retE loopE loopS cutB cutN doneE SE
structure Gn where
  id : Int
  lag : Int
  r : Rq
abbrev Gn.cells (g : Gn) : List Value := .int .i64 g.id :: .int .i64 (g.lag / 18446744073709551616) :: .int .u64 (g.lag % 18446744073709551616) :: g.r.cells
def gv (g : Gn) : Value := .agg g.cells.toArray
def Gn.zero : Gn := ⟨0, 0, .zero⟩
def goes (q : Qs) (a : RT) : Bool := a.1.asleep && decide (owedQ q (idR a) ≥ 0)
def gnOf (q : Qs) (a : RT) : Gn := ⟨idR a, lagQ q (idR a), a.1⟩
def nextS (s : Ss) : Option Gn := (s.l.find? (goes s.q)).map (gnOf s.q)
def gnV (o : Option Gn) : Value := .tuple #[gv (o.getD .zero), .bool o.isSome]
theorem find_next {l : List RT} {p : RT → Bool} {i : Nat} (h : i < l.length) (hn : (l.take i).find? p = none) (hp : p l[i] = false) : (l.take (i + 1)).find? p = none := by
  rw [take_next h, List.find?_append, hn, List.find?_singleton, hp]; rfl
theorem find_here {l : List RT} {p : RT → Bool} {i : Nat} (h : i < l.length) (hn : (l.take i).find? p = none) (hp : p l[i] = true) : l.find? p = some l[i] := by
  conv => lhs; rw [← List.take_append_drop i l]
  rw [List.find?_append, hn, List.drop_eq_getElem_cons h, List.find?_cons, hp]; rfl
set_option maxHeartbeats 4000000 in
theorem next_ret (sb : Nat) (s : Ss) (F : List Nat) (w0 : World) (h : SAt w0 sb s F) (hn : s.l.length ≤ 1000000) :
    Ret Tryz.prog 73 #[.pointer (some ⟨sb, 0, none⟩)] w0 fun v w' => v = gnV (nextS s) ∧ Only [] w0 w' := by
  have hS := h
  obtain ⟨qb, mb, Fq, rfl, h1, h2, h3, h4, h5⟩ := h
  have hs := (St.nil w0).track h1 (by simp)
  refine ret_of_xc Tryz.func73 (by kernel_rfl) rfl Tryz.ntmps73 rfl rfl rfl ?_
  refine xc_seq ?_
  refine xc_region ?_ ?_; exact rfl
  refine al hs (k := ?_); intro b2 w hz hs
  have g2 := hs.new (b2, true) (by simp) rfl
  simp only at g2
  repeat' (first|refine vs (k:=?_)|refine qRg ?_|refine Nx.h ?_|fail)
  have ho := hs.onlyF [] (by simp [h1]) (by simp [D0])
  (with_reducible apply xs_call); exact rfl; exact rfl; exact reqs_ret sb s _ _ (hS.only ho) hn
  rintro v2 w2 ⟨⟨G, hG, _⟩, ho2⟩; replace hs := hs.call0 ho2
  have hD := rs_of hG
  obtain ⟨ad, cap, rfl, hD⟩ := hD
  rw [List.length_map]
  rw [List.length_map] at hD
  have hk2 := hs.get At.head
  have hsb2 := hs.get (At.tail At.head)
  have n2s : b2 ≠ sb := by have := lt_of_block h1; omega
  have hoA : Only [] w0 w2 := hs.onlyF [] (by simp [h1]) (by simp [D0])
  have hz2 := hoA.size
  clear hs
  have hs := ((St.nil w2).track hsb2 (by simp)).track hk2 (by simpa using n2s)
  repeat' (first|refine vs (k:=?_)|refine Nx.h ?_|fail)
  refine xc_cutB (fun (_ : Unit) => [(0, .pointer (some ⟨sb, 0, none⟩)), (2, .pointer (some ⟨b2, 0, none⟩))]) (fun _ w => Only [] w2 w ∧ nextS s = none) ?_ ?_
  · refine xc_loopS (fun (x : Nat) => [(0, .pointer (some ⟨sb, 0, none⟩)), (2, .pointer (some ⟨b2, 0, none⟩)), (11, .slice ad s.l.length cap), (12, .int .i64 (s.l.length : Nat)), (13, .int .i64 (x : Nat))])
      (fun x w => x ≤ s.l.length ∧ Only [] w2 w ∧ (s.l.take x).find? (goes s.q) = none) (fun x => s.l.length - x) 0 (by (repeat (first | exact agree_nil | (apply agree_cons; exact rfl)))) ⟨Nat.zero_le _, hs.onlyF [] (by simp [hsb2, hk2]) (by simp [D0]), rfl⟩ fun i env wl ⟨hi, ho0, hnone⟩ => ?_
    clear hs
    have hbl := ho0.block hk2 (by simp)
    have hsl := ho0.block hsb2 (by simp)
    have hs := ((St.nil wl).track hsl (by simp)).track hbl (by simpa using n2s)
    have hSl := hS.only (hoA.trans ho0)
    repeat' (first|refine vs (k:=?_)|refine qRg ?_|refine Nx.h ?_|(refine xc_if rfl (fun hc=>?_) (fun hc=>?_))|fail)
    · have hlt : i < s.l.length := by omega
      obtain ⟨b, off, cs, fz, rfl, _, hb, hcs⟩ := hD (fun h => by rw [List.map_eq_nil_iff.1 h] at hlt; cases hlt)
      have hpk := hcs i (Rq.cells s.l[i].1) (by rw [List.getElem?_map, List.getElem?_eq_getElem hlt]; rfl)
      have ei := nx64 (m := s.l.length) hlt (by omega)
      have eNo := find_next hlt hnone
      have eHe := find_here hlt hnone
      have hin := s.l[i].2.1.2.1
      generalize s.l[i] = q at *
      refine ix (h0 := (by omega)) (h1 := (by omega)) (k := ?_)
      refine lhK (ho0.block hb (by simp)) hpk (k := ?_)
      refine al hs (k := ?_); intro b8 w8 hz hs
      repeat' (first|(refine stA hs (k:=?_);intro w hs)|refine Nx.h ?_|fail)
      refine dr [] hs (k := ?_); intro hX w hs
      refine tk 0 hX (k := ?_)
      refine tk 1 hX (k := ?_)
      refine tk 2 hX (k := ?_)
      refine tk 3 hX (k := ?_)
      refine tk 4 hX (k := ?_)
      refine tk 5 hX (k := ?_)
      refine tk 6 hX (k := ?_)
      refine dt 7 hX (k := ?_)
      have hoB := (hoA.trans ho0).trans (hs.onlyF [] (by simp [hsl, hbl]) (by simp [D0]))
      (with_reducible apply xs_call); exact rfl; exact rfl; exact qowed_ret qb s.q Fq (idR q) _ (h3.only hoB) hin
      generalize hg : owedQ s.q (idR q) = ow
      generalize errN (s.q.f (idR q)).isSome = er
      rintro v w' ⟨rfl, ho⟩; replace hs := hs.call0 ho; repeat' (first|refine Nx.h ?_|fail)
      refine dn (k := ?_)
      refine tk 8 hX (k := ?_)
      refine tk 9 hX (k := ?_)
      refine tk 10 hX (k := ?_)
      refine tk 11 hX (k := ?_)
      refine tk 12 hX (k := ?_)
      refine en (k := ?_)
      repeat' (first|refine vs (k:=?_)|refine ps (k:=?_)|refine qRg ?_|refine Nx.h ?_|refine qCf ?_|((with_reducible apply xs_guard);exact rfl;exact rfl;intro c hc;(fail_if_success have:true=c:=hc);(fail_if_success have:false=c:=hc);cases c)|(refine xc_if rfl (fun hc=>?_) (fun hc=>?_))|fail)
      · have ef : goes s.q q = false := by unfold goes; rw [show q.1.asleep = false by assumption]; rfl
        exact loopS_next (i + 1) (by show s.l.length - (i + 1) < s.l.length - i; omega) (by (repeat (first | exact agree_nil | (apply agree_cons; first | exact rfl | exact congrArg (Value.int .i64) ei)))) ⟨by show i + 1 ≤ _; omega, ho0.trans (hs.onlyF [] (by simp [hsl, hbl]) (by simp [D0])), eNo ef⟩
      · have ef : goes s.q q = true := by unfold goes; rw [show q.1.asleep = true by assumption, hg, decide_eq_true (show ow ≥ 0 by assumption)]; rfl
        have ev : nextS s = some (gnOf s.q q) := by unfold nextS; rw [eHe ef]; rfl
        refine dr [] hs (k := ?_); intro hX w hs
        refine tk 0 hX (k := ?_)
        refine tk 1 hX (k := ?_)
        refine tk 2 hX (k := ?_)
        refine tk 3 hX (k := ?_)
        refine tk 4 hX (k := ?_)
        refine tk 5 hX (k := ?_)
        refine tk 6 hX (k := ?_)
        refine pd0 11 8 hs (k := ?_); intro f X w hp; have hs := hp.st
        apply xa_pend 7 11 (f := f) (X := X) hX hp; exact rfl; exact rfl; (first | (apply makes_alloc tabOk; exact rfl) | (apply makes_slice tabOk; exact rfl; exact rfl; exact rfl; exact rfl; exact rfl; (intro X; ((repeat (first | exact Bld.nil | (apply Bld.one; exact rfl; (conv => lhs; whnf); exact rfl; (repeat (first | exact PutL.nil | apply PutL.skip | apply PutL.cons))) | (apply Bld.agg; exact rfl; exact rfl; exact rfl; (repeat (first | exact PutL.nil | apply PutL.skip | apply PutL.cons))))))))); kernel_rfl; kernel_rfl; kernel_rfl; kernel_rfl; (intro X Y; (repeat (first | exact pgg_base | refine pgg_step ?_ (by exact rfl)))); (intro w' hs; ((first | exact se_hold hs.hold | exact se_hold (hold_sim hs.hold rfl) | exact se_hold (hold_sim hs.hold.tail rfl) | exact se_hold (hR hs rfl) | exact se_hold hs.hold.tail | exact se_hold hs.hold.tail.tail | exact se_hold hs.hold.tail.tail.tail | exact se_done rfl))); intro f X w hp; have hs := hp.st
        have hoC := (hoA.trans ho0).trans (hs.onlyF [] (by simp [hsl, hbl]) (by simp [D0]))
        (with_reducible apply xs_call); exact rfl; exact rfl; exact qlag_ret qb s.q Fq (idR q) _ (h3.only hoC) hin
        rintro v w' ⟨rfl, ho⟩; replace hp := hp.only ho; replace hs := hp.st; repeat' (first|refine Nx.h ?_|fail)
        refine dn (k := ?_)
        refine tk 8 hX (hc := by cases f <;> kernel_rfl) (k := ?_)
        refine tk 9 hX (hc := by cases f <;> kernel_rfl) (k := ?_)
        refine tk 10 hX (hc := by cases f <;> kernel_rfl) (k := ?_)
        apply xa_pendE 11 (f := f) (X := X) hX hp; exact rfl; (first | (apply makes_alloc tabOk; exact rfl) | (apply makes_slice tabOk; exact rfl; exact rfl; exact rfl; exact rfl; exact rfl; (intro X; ((repeat (first | exact Bld.nil | (apply Bld.one; exact rfl; (conv => lhs; whnf); exact rfl; (repeat (first | exact PutL.nil | apply PutL.skip | apply PutL.cons))) | (apply Bld.agg; exact rfl; exact rfl; exact rfl; (repeat (first | exact PutL.nil | apply PutL.skip | apply PutL.cons))))))))); kernel_rfl; kernel_rfl; (intro X Y; (repeat (first | exact pgg_base | refine pgg_step ?_ (by exact rfl)))); (intro w' hs; ((first | exact se_hold hs.hold | exact se_hold (hold_sim hs.hold rfl) | exact se_hold (hold_sim hs.hold.tail rfl) | exact se_hold (hR hs rfl) | exact se_hold hs.hold.tail | exact se_hold hs.hold.tail.tail | exact se_hold hs.hold.tail.tail.tail | exact se_done rfl))); intro b w hI hs
        refine dt 12 hX (k := ?_)
        repeat' (first|(refine stA hs (k:=?_);intro w hs)|refine Nx.h ?_|fail)
        refine dn (k := ?_)
        refine tk 13 hX (k := ?_)
        refine en (k := ?_)
        repeat' (first|refine vs (k:=?_)|(refine stA hs (k:=?_);intro w hs)|refine qRg ?_|refine Nx.h ?_|fail)
        first | refine rt (hq := ?_) | refine rt' (hq := ?_)
        rw [ev]
        exact ⟨rfl, (hoA.trans ho0).step (hs.onlyF [b2] (by simp [hsl]) (by simp [D0])) (fun k hk => .inr (by obtain rfl := List.mem_singleton.1 hk; exact g2))⟩
      · have ef : goes s.q q = false := by unfold goes; rw [hg, decide_eq_false (show ¬ ow ≥ 0 by assumption), Bool.and_false]
        exact loopS_next (i + 1) (by show s.l.length - (i + 1) < s.l.length - i; omega) (by (repeat (first | exact agree_nil | (apply agree_cons; first | exact rfl | exact congrArg (Value.int .i64) ei)))) ⟨by show i + 1 ≤ _; omega, ho0.trans (hs.onlyF [] (by simp [hsl, hbl]) (by simp [D0])), eNo ef⟩
    · have e : i = s.l.length := by omega
      subst e
      rw [List.take_length] at hnone
      exact cutB_exit () (by (repeat (first | exact agree_nil | (apply agree_cons; exact rfl)))) ⟨ho0, by unfold nextS; rw [hnone]; rfl⟩
  · rintro _ env w ⟨ho0, hnone⟩
    clear hs
    have hbl := ho0.block hk2 (by simp)
    have hs := (St.nil w).track hbl (by simp)
    repeat' (first|refine vs (k:=?_)|(refine stA hs (k:=?_);intro w hs)|refine qRg ?_|refine Nx.h ?_|fail)
    first | refine rt (hq := ?_) | refine rt' (hq := ?_)
    rw [hnone]
    exact ⟨rfl, (hoA.trans ho0).step (hs.onlyF [b2] (by simp) (by simp [D0])) (fun k hk => .inr (by obtain rfl := List.mem_singleton.1 hk; exact g2))⟩
end Go.Proofs.YtilajmcellffiaaGreatDoorX

namespace Go.Proofs.YtilajmcellffiaaGreatDoorX
open Go Go.RowKit
open IB (IT ITsAt flatT)
attribute [local irreducible] XS XC XA thenE blockE retE loopE loopS cutB cutN doneE SE
inductive Flushes : Ss → List Gn → Ss → Prop
  | done {s : Ss} : nextS s = none → Flushes s [] s
  | step {s s' : Ss} {g : Gn} {l : List Gn} {a : IT} : nextS s = some g → s.q.f g.id = some a → CutOk a s.q.t → Flushes (exitS s g.id) l s' → Flushes s (g :: l) s'
def flatG (l : List Gn) : List Value := (l.map Gn.cells).flatten
theorem flatG_snoc (l : List Gn) (g : Gn) : flatG (l ++ [g]) = flatG l ++ g.cells := by simp [flatG]
theorem next_id {s : Ss} {g : Gn} (h : nextS s = some g) : In64 g.id := by
  obtain ⟨a, _, rfl⟩ := Option.map_eq_some_iff.1 h
  exact a.2.1.2.1
theorem cutT_len {a : IT} {t : RB IT} (h : CutOk a t) : (cutT a t).list.length ≤ t.list.length := by
  unfold cutT
  cases e : RB.has IB.ltT a t
  · exact Nat.le_refl _
  · have := (h e).2
    rw [cond_true, RB.list_blacken]
    omega
theorem exit_small {s : Ss} {id : Int} {a : IT} (hf : s.q.f id = some a) (hc : CutOk a s.q.t) (ho : OrdR s.l) : (exitS s id).l.length ≤ s.l.length ∧ (exitS s id).q.t.list.length ≤ s.q.t.list.length := by
  constructor
  · show (delR id s.l).length ≤ _
    rw [len_del ho]
    split <;> omega
  · show (leaveQ s.q id).t.list.length ≤ _
    unfold leaveQ
    rw [hf]
    exact cutT_len hc
theorem SAt.ord {w : World} {sb : Nat} {s : Ss} {F : List Nat} (h : SAt w sb s F) : OrdR s.l := by obtain ⟨qb, mb, Fq, rfl, h1, h2, h3, h4, h5⟩ := h; exact h5
theorem slv_set {w : World} {e k n : Nat} {v : Value} {xs : List Value} {G F : List Nat} {sb : Nat} {s : Ss} (h : SlV w e k v n xs G) (hS : SAt w sb s F) (ho : okS (.cells #[] e (0, 0)) = true) : ∀ b ∈ G, b ∉ F := fun b hb => by
  rcases h with ⟨_, _, _, rfl⟩ | ⟨g, cap, cur, _, rfl, _, _, _, _, hg⟩
  · cases hb
  · obtain rfl := List.mem_singleton.1 hb
    exact hS.not hg ho
set_option maxHeartbeats 4000000 in
theorem flush_ret (sb : Nat) (s s' : Ss) (l : List Gn) (F : List Nat) (w0 : World) (h : SAt w0 sb s F) (hn : s.l.length ≤ 1000000) (hq : s.q.t.list.length ≤ 1000000) (hl : l.length ≤ 1000000) (hF : Flushes s l s') :
    Ret Tryz.prog 24 #[.pointer (some ⟨sb, 0, none⟩)] w0 fun v w' => (∃ G, SlV w' 140 13 v l.length (flatG l) G ∧ ∀ k ∈ G, w0.heap.size ≤ k) ∧ ∃ F', SAt w' sb s' F' ∧ (∀ k ∈ F', k ∈ F ∨ w0.heap.size ≤ k) ∧ Only F w0 w' := by
  have hs := St.nil w0
  refine ret_of_xc Tryz.func24 (by kernel_rfl) rfl Tryz.ntmps24 rfl rfl rfl ?_
  repeat' (first|refine vs (k:=?_)|refine qRg ?_|refine Nx.h ?_|fail)
  refine xc_cutB (fun (_ : Unit) => []) (fun _ _ => False) ?_ ?_
  · refine xc_loopS (fun (x : List Gn × List Gn × Value × Ss × List Nat) => [(0, .pointer (some ⟨sb, 0, none⟩)), (3, x.2.2.1)])
      (fun x w => x.2.1 ++ x.1 = l ∧ Flushes x.2.2.2.1 x.1 s' ∧ x.2.2.2.1.l.length ≤ 1000000 ∧ x.2.2.2.1.q.t.list.length ≤ 1000000 ∧ (∃ G, SlV w 140 13 x.2.2.1 x.2.1.length (flatG x.2.1) G ∧ ∀ k ∈ G, w0.heap.size ≤ k) ∧ SAt w sb x.2.2.2.1 x.2.2.2.2 ∧ (∀ k ∈ x.2.2.2.2, k ∈ F ∨ w0.heap.size ≤ k) ∧ Only F w0 w)
      (fun x => x.1.length) (l, [], .slice none 0 0, s, F) (by (repeat (first | exact agree_nil | (apply agree_cons; exact rfl)))) ⟨rfl, hF, hn, hq, ⟨[], .inl ⟨rfl, rfl, rfl, rfl⟩, by simp⟩, h, fun k hk => .inl hk, (hs.only0 rfl).weaken (by simp)⟩ fun x env wl hI => ?_
    obtain ⟨r, acc, v3, s1, F1⟩ := x
    simp only at hI
    obtain ⟨hacc, hFl, hn1, hq1, ⟨G, hG, hGn⟩, hS1, hF1, ho0⟩ := hI
    clear hs
    have hs := St.nil wl
    have hsz := ho0.size
    have hal : acc.length ≤ 1000000 := by rw [← hacc, List.length_append] at hl; omega
    repeat' (first|refine vs (k:=?_)|refine qRg ?_|refine Nx.h ?_|fail)
    (with_reducible apply xs_call); exact rfl; exact rfl; exact next_ret sb s1 F1 _ hS1 hn1
    cases hFl with
    | done hnx =>
      rw [hnx]
      rintro v w' ⟨rfl, ho⟩; replace hs := hs.call0 ho; repeat' (first|refine vs (k:=?_)|(refine stA hs (k:=?_);intro w hs)|(refine al hs (k:=?_);intro b w hz hs)|refine qRg ?_|refine Nx.h ?_|refine qCt ?_|fail)
      first | refine rt (hq := ?_) | refine rt' (hq := ?_)
      rw [List.append_nil] at hacc
      subst hacc
      exact ⟨⟨G, hG.keep (hs.only0 rfl) (by simp), hGn⟩, F1, hS1.only (hs.only0 rfl), hF1, ho0.step (hs.only0 rfl) (by simp)⟩
    | step hnx hf hc hFl' =>
      rename_i g r' a
      rw [hnx]
      have hid := next_id hnx
      have hsm := exit_small hf hc hS1.ord
      rintro v w' ⟨rfl, ho⟩; replace hs := hs.call0 ho; repeat' (first|refine vs (k:=?_)|(refine stA hs (k:=?_);intro w hs)|(refine al hs (k:=?_);intro b w hz hs)|refine qRg ?_|refine Nx.h ?_|refine qCf ?_|fail)
      have hoN := hs.only0 rfl
      have hSN := hS1.only hoN
      have hapart := hSN.apart hs rfl
      (with_reducible apply xs_call); exact rfl; exact rfl; exact exit_ret sb s1 F1 g.id _ hSN hid hq1 a hf hc
      rintro v wE ⟨rfl, F2, hS2, hF2, hoE⟩
      replace hs := hs.call hoE hapart (by simp [D0])
      have k4 := hs.get At.head
      have hG1 := hG.keep hoN (by simp)
      have hG2 := hG1.keep hoE (slv_set hG1 hSN rfl)
      have hzN := hoN.size
      have hzE := hoE.size
      have hoA : Only F w0 wE := (ho0.step hoN (by simp)).step hoE hF1
      have hF2' : ∀ k ∈ F2, k ∈ F ∨ w0.heap.size ≤ k := fun k hk => by
        rcases hF2 k hk with h | h
        · exact hF1 k h
        · exact .inr (by omega)
      clear hs
      have hs := (St.nil wE).track k4 (by simp)
      refine XS.nil ?_
      refine then_of ?_
      repeat' (first|refine vs (k:=?_)|(refine bs hs (k:=?_);intro b w hz hs)|refine qRg ?_|fail)
      have hb20 := hs.get At.head
      have hoB := hs.onlyF [] (by simp [k4]) (by simp [D0])
      have hzB := hoB.size
      have hGB := hG2.keep hoB (by simp)
      have hSB := hS2.only hoB
      refine xs_appendW tabOk rfl rfl rfl rfl rfl rfl rfl (by decide) (lit_cells (news := g.cells) hb20) (by simp [Value.oneCell']) hGB (by omega) (by omega) ?_
      intro v5 w5 ⟨G', hG', hGn'⟩ ho5
      have hS5 := hSB.keepD ho5 (fun k hk hm => slv_set hGB hSB rfl k hm hk)
      clear hs
      have hs := St.nil w5
      repeat' (first|refine vs (k:=?_)|refine Nx.h ?_|fail)
      refine loopS_next (r', acc ++ [g], v5, exitS s1 g.id, F2) (by show r'.length < (g :: r').length; simp) (by (repeat (first | exact agree_nil | (apply agree_cons; exact rfl)))) ⟨by show (acc ++ [g]) ++ r' = l; rw [List.append_assoc]; exact hacc, hFl', by show (exitS s1 g.id).l.length ≤ _; omega, by show (exitS s1 g.id).q.t.list.length ≤ _; omega, ⟨G', ?_, ?_⟩, hS5.only (hs.only0 rfl), hF2', ((hoA.step hoB (by simp)).step ho5 (fun k hk => .inr (hGn k hk))).step (hs.only0 rfl) (by simp)⟩
      · simp only [List.length_append, List.length_cons, List.length_nil, flatG_snoc]
        exact hG'.keep (hs.only0 rfl) (by simp)
      · intro k hk
        rcases hGn' k hk with h | h
        · exact hGn k h
        · omega
  · rintro _ _ _ hI
    exact hI.elim
end Go.Proofs.YtilajmcellffiaaGreatDoorX

namespace Go.Proofs.YtilajmcellffiaaGreatDoorX
open Go Go.RowKit
open IB (IT ITsAt flatT)
attribute [local irreducible] XS XC XA thenE blockE retE loopE loopS cutB cutN doneE SE
theorem next_nil (w0 : World) : Ret Tryz.prog 73 #[.pointer none] w0 fun v w' => v = gnV none ∧ Only [] w0 w' := by
  have hs := St.nil w0
  refine ret_of_xc Tryz.func73 (by kernel_rfl) rfl Tryz.ntmps73 rfl rfl rfl ?_
  refine xc_seq ?_
  refine xc_region ?_ ?_; exact rfl
  refine al hs (k := ?_); intro b2 w hz hs
  repeat' (first|refine vs (k:=?_)|refine qRg ?_|refine Nx.h ?_|fail)
  (with_reducible apply xs_call); exact rfl; exact rfl; exact reqs_nil _
  rintro v w' ⟨rfl, ho⟩; replace hs := hs.call0 ho; repeat' (first|refine vs (k:=?_)|refine Nx.h ?_|fail)
  have g2 := hs.new (b2, true) (by simp) rfl
  simp only at g2
  refine xc_cutB (fun (_ : Unit) => [(2, .pointer (some ⟨b2, 0, none⟩))]) (fun _ w => St w0 D0 [(b2, .cells Gn.zero.cells.toArray 140, true)] w) ?_ ?_
  · refine xc_loopS (fun (x : Unit) => [(2, .pointer (some ⟨b2, 0, none⟩)), (12, .int .i64 (0 : Nat)), (13, .int .i64 0)]) (fun x w => St w0 D0 [(b2, .cells Gn.zero.cells.toArray 140, true)] w) (fun x => 0) () (by (repeat (first | exact agree_nil | (apply agree_cons; exact rfl)))) hs fun i env wl hs => ?_
    repeat' (first|refine vs (k:=?_)|refine qRg ?_|refine Nx.h ?_|refine qCf ?_|fail)
    exact cutB_exit () (by (repeat (first | exact agree_nil | (apply agree_cons; exact rfl)))) hs
  · clear hs
    rintro _ env w hs
    repeat' (first|refine vs (k:=?_)|(refine stA hs (k:=?_);intro w hs)|refine qRg ?_|refine Nx.h ?_|fail)
    first | refine rt (hq := ?_) | refine rt' (hq := ?_)
    exact ⟨rfl, hs.only0 rfl⟩
theorem flush_nil (w0 : World) : Ret Tryz.prog 24 #[.pointer none] w0 fun v w' => v = .slice none 0 0 ∧ Only [] w0 w' := by
  have hs := St.nil w0
  refine ret_of_xc Tryz.func24 (by kernel_rfl) rfl Tryz.ntmps24 rfl rfl rfl ?_
  repeat' (first|refine vs (k:=?_)|refine qRg ?_|refine Nx.h ?_|fail)
  refine xc_cutB (fun (_ : Unit) => []) (fun _ _ => False) ?_ ?_
  · refine xc_loopS (fun (x : Unit) => [(0, .pointer none), (3, .slice none 0 0)]) (fun x w => Only [] w0 w) (fun x => 0) () (by (repeat (first | exact agree_nil | (apply agree_cons; exact rfl)))) (hs.only0 rfl) fun x env wl ho0 => ?_
    clear hs
    have hs := St.nil wl
    repeat' (first|refine vs (k:=?_)|refine qRg ?_|refine Nx.h ?_|fail)
    (with_reducible apply xs_call); exact rfl; exact rfl; exact next_nil _
    rintro v w' ⟨rfl, ho⟩; replace hs := hs.call0 ho; repeat' (first|refine vs (k:=?_)|(refine stA hs (k:=?_);intro w hs)|(refine al hs (k:=?_);intro b w hz hs)|refine qRg ?_|refine Nx.h ?_|refine qCt ?_|fail)
    first | refine rt (hq := ?_) | refine rt' (hq := ?_)
    exact ⟨rfl, ho0.trans (hs.only0 rfl)⟩
  · rintro _ _ _ hI
    exact hI.elim
theorem settle_nil (w0 : World) : Ret Tryz.prog 22 #[.pointer none] w0 fun v w' => v = .tuple #[.slice none 0 0, .int .i64 0] ∧ Only [] w0 w' := by
  have hs := St.nil w0
  refine ret_of_xc Tryz.func22 (by kernel_rfl) rfl Tryz.ntmps22 rfl rfl rfl ?_
  repeat' (first|refine vs (k:=?_)|refine qRg ?_|refine Nx.h ?_|refine qCt ?_|fail)
  first | refine rt (hq := ?_) | refine rt' (hq := ?_)
  exact ⟨rfl, hs.only0 rfl⟩
def soonId (q : Qs) : Int := (IB.valO (soonQ q)).id
set_option maxHeartbeats 4000000 in
theorem settle_ret (sb : Nat) (s s' : Ss) (l : List Gn) (F : List Nat) (w0 : World) (h : SAt w0 sb s F) (hn : s.l.length ≤ 1000000) (hq : s.q.t.list.length ≤ 1000000) (hl : l.length ≤ 1000000) (hF : Flushes s l s') :
    Ret Tryz.prog 22 #[.pointer (some ⟨sb, 0, none⟩)] w0 fun v w' => ∃ sl, v = .tuple #[sl, .int .i64 (soonId s'.q)] ∧ (∃ G, SlV w' 140 13 sl l.length (flatG l) G ∧ ∀ k ∈ G, w0.heap.size ≤ k) ∧ ∃ F', SAt w' sb s' F' ∧ (∀ k ∈ F', k ∈ F ∨ w0.heap.size ≤ k) ∧ Only F w0 w' := by
  have hs := St.nil w0
  refine ret_of_xc Tryz.func22 (by kernel_rfl) rfl Tryz.ntmps22 rfl rfl rfl ?_
  repeat' (first|refine vs (k:=?_)|refine qRg ?_|refine Nx.h ?_|refine qCf ?_|fail)
  have hoa := hs.only0 rfl
  have hz := hoa.size
  (with_reducible apply xs_call); exact rfl; exact rfl; exact flush_ret sb s s' l F _ (h.only hoa) hn hq hl hF
  rintro v1 w1 ⟨⟨G, hG, hGn⟩, F1, hS1, hF1, ho1⟩
  have hS1' := hS1
  obtain ⟨qb, mb, Fq, rfl, h1, h2, h3, h4, h5⟩ := hS1
  clear hs
  have hs := (St.nil w1).track h1 (by simp)
  repeat' (first|refine vs (k:=?_)|refine qRg ?_|refine Nx.h ?_|fail)
  have ho2 := hs.onlyF [] (by simp [h1]) (by simp [D0])
  (with_reducible apply xs_call); exact rfl; exact rfl; exact qsoonest_ret qb s'.q Fq _ (h3.only ho2)
  rintro v w' ⟨rfl, ho⟩; replace hs := hs.call0 ho; repeat' (first|refine vs (k:=?_)|(refine stA hs (k:=?_);intro w hs)|(refine al hs (k:=?_);intro b w hz hs)|refine Nx.h ?_|fail)
  refine dr [] hs (k := ?_); intro hX w hs
  refine tk 0 hX (k := ?_)
  refine tk 1 hX (k := ?_)
  refine tk 2 hX (k := ?_)
  refine tk 3 hX (k := ?_)
  refine tk 4 hX (k := ?_)
  refine en (k := ?_)
  repeat' (first|refine Nx.h ?_|fail)
  first | refine rt (hq := ?_) | refine rt' (hq := ?_)
  have ho3 := hs.onlyF [] (by simp [h1]) (by simp [D0])
  exact ⟨v1, rfl, ⟨G, hG.keep ho3 (by simp), fun k hk => by have := hGn k hk; omega⟩, _, hS1'.only ho3, fun k hk => by
    rcases hF1 k hk with h | h
    · exact .inl h
    · exact .inr (by omega), ((hoa.weaken (by simp)).step ho1 (fun k hk => .inl hk)).step ho3 (by simp)⟩
end Go.Proofs.YtilajmcellffiaaGreatDoorX

namespace Go.Proofs.YtilajmcellffiaaGreatDoorX
open Go Go.RowKit
open IB (IT ITsAt flatT)
attribute [local irreducible] XS XC XA thenE blockE retE loopE loopS cutB cutN doneE SE
def rs : RT := wakeR rk true
def s17 : Ss := enterS (newS 0) rs
def g17 : Gn := ⟨1, 0, rs.1⟩
theorem p1 : enterE (newS 0) rs = 0 := by kernel_rfl
theorem p2 : nextS s17 = some g17 := by kernel_rfl
theorem p3 : s17.q.f 1 = some (itR rs) := by kernel_rfl
theorem p4 : CutOk (itR rs) s17.q.t := fun _ => ⟨by kernel_rfl, by kernel_rfl⟩
theorem p5 : nextS (exitS s17 1) = none := by kernel_rfl
theorem p6 : soonId (exitS s17 1).q = 0 := by kernel_rfl
theorem f17 : Flushes s17 [g17] (exitS s17 1) := .step p2 p3 p4 (.done p5)
set_option maxHeartbeats 4000000 in
theorem awake17_ret (w0 : World) (ht : Pows w0) : Ret Tryz.prog 23 #[] w0 fun v w' => v = .bool true ∧ Only [] w0 w' := by
  have hs := St.nil w0
  refine ret_of_xc Tryz.func23 (by kernel_rfl) rfl Tryz.ntmps23 rfl rfl rfl ?_
  repeat' (first|refine vs (k:=?_)|refine qRg ?_|refine Nx.h ?_|fail)
  (with_reducible apply xs_call); exact rfl; exact rfl; exact snew_ret 0 (by decide) _
  rintro v w1 ⟨⟨sb, F0, rfl, hS, hF0⟩, ho1⟩
  have hF0 : ∀ k ∈ F0, w0.heap.size ≤ k := fun k hk => by have := hF0 k hk; have := hs.size; omega
  have hz1 := ho1.size
  have hq := hs.call0 ho1
  have ho1' := hq.only0 rfl
  clear hs hq
  have hs := St.nil w1
  repeat' (first|refine vs (k:=?_)|refine qRg ?_|refine Nx.h ?_|fail)
  (with_reducible apply xs_call); exact rfl; exact rfl; exact rnew_ret ⟨3, 0, 1⟩ 1 5 (by decide) (by decide) (by decide) _
  rw [k1]
  rintro v w' ⟨rfl, ho⟩; replace hs := hs.call0 ho; repeat' (first|refine vs (k:=?_)|(refine st hs (k:=?_);intro w hs)|(refine stA hs (k:=?_);intro w hs)|(refine al hs (k:=?_);intro b w hz hs)|refine qRg ?_|refine Nx.h ?_|fail)
  have hSw := hS.only (hs.only0 rfl)
  have hzw := hs.size
  (with_reducible apply xs_call); exact rfl; exact rfl; exact enter_ret sb (newS 0) F0 rs _ hSw (by decide) (by decide) (by decide)
  rw [p1, show enterS (newS 0) rs = s17 from rfl]
  rintro v w3 ⟨rfl, F1, hS3, hF1, ho3⟩
  replace hs := hs.call ho3 (hSw.apart hs rfl) (by simp [D0])
  have hF1' : ∀ k ∈ F1, w0.heap.size ≤ k := fun k hk => by
    rcases hF1 k hk with h | h
    · exact hF0 k h
    · omega
  have hoA : Only [] w0 w3 := ho1'.step hs.only (fun k hk => by
    have hk : k ∈ F0 ++ [] := hk
    rw [List.append_nil] at hk
    exact .inr (hF0 k hk))
  have e6 := p6
  have hf := f17
  have hn := (show s17.l.length ≤ 1000000 by decide)
  have hq := (show s17.q.t.list.length ≤ 1000000 by decide)
  generalize s17 = s at *
  generalize exitS s 1 = s' at *
  have hz3 := hoA.size
  clear hs
  have hs := St.nil w3
  repeat' (first|refine vs (k:=?_)|refine qRg ?_|refine Nx.h ?_|refine qCf ?_|fail)
  (with_reducible apply xs_call); exact rfl; exact rfl; exact settle_ret sb s s' [g17] F1 _ hS3 hn hq (by decide) hf
  rw [e6]
  rintro v w4 ⟨sl, rfl, ⟨G, hG, hGn⟩, F2, hS4, hF2, ho4⟩
  have hL := hG.ls (xs := [g17.cells]) rfl rfl (by simp)
  obtain ⟨ad, cap, rfl, hD⟩ := hL
  obtain ⟨bb, off, cs, fz, rfl, _, hbb, hcs⟩ := hD (by simp)
  have hpk := hcs 0 g17.cells rfl
  have hoB : Only [] w0 w4 := hoA.step ho4 (fun k hk => .inr (hF1' k hk))
  clear hs
  have hs := St.nil w4
  repeat' (first|refine vs (k:=?_)|refine qRg ?_|refine Nx.h ?_|fail)
  (with_reducible apply xs_call); exact rfl; exact rfl; exact Awake16_ret _ (tab_only ht hoB)
  rintro v w5 ⟨rfl, ho5⟩
  have hb5 := ho5.block hbb (by simp)
  have hoC := hoB.trans ho5
  clear hs
  have hs := St.nil w5
  repeat' (first|refine vs (k:=?_)|fail)
  refine ix (h0 := (by decide)) (h1 := (by decide)) (k := ?_)
  repeat' (first|refine vs (k:=?_)|fail)
  refine lh hb5 (by cases hpk with | cons h _ => exact h) (k := ?_)
  repeat' (first|refine vs (k:=?_)|fail)
  refine ix (h0 := (by decide)) (h1 := (by decide)) (k := ?_)
  refine vs (k := ?_)
  have hpk2 : Pick cs (off + 1) 2 [.int .i64 0, .int .u64 0] := by
    cases hpk with | cons _ h => cases h with | cons h1 h => cases h with | cons h2 _ => exact .cons h1 (.cons h2 .nil)
  refine lhK hb5 hpk2 (k := ?_)
  skip
  (with_reducible apply xs_call); exact rfl; exact rfl; exact sign_ret 0 (by decide) _
  rintro v w' ⟨rfl, ho⟩; replace hs := hs.call0 ho; repeat' (first|refine vs (k:=?_)|refine Nx.h ?_|fail)
  first | refine rt (hq := ?_) | refine rt' (hq := ?_)
  exact ⟨rfl, hoC.trans (hs.only0 rfl)⟩
theorem Awake17_ret (w0 : World) (ht : Pows w0) : Ret Tryz.prog 23 #[] w0 fun v w' => v = .bool true ∧ Only [] w0 w' := awake17_ret w0 ht
set_option maxHeartbeats 4000000 in
theorem settleNone_ret (w0 : World) (ht : Pows w0) : Ret Tryz.prog 4 #[] w0 fun v w' => v = .bool true ∧ Only [] w0 w' := by
  have hs := St.nil w0
  refine ret_of_xc Tryz.func4 (by kernel_rfl) rfl Tryz.ntmps4 rfl rfl rfl ?_
  repeat' (first|refine vs (k:=?_)|refine qRg ?_|refine Nx.h ?_|fail)
  (with_reducible apply xs_call); exact rfl; exact rfl; exact settle_nil _
  rintro v w' ⟨rfl, ho⟩; replace hs := hs.call0 ho; repeat' (first|refine vs (k:=?_)|refine qRg ?_|refine Nx.h ?_|fail)
  (with_reducible apply xs_call); exact rfl; exact rfl; exact awake17_ret _ (tab_only ht (hs.only0 rfl))
  rintro v w' ⟨rfl, ho⟩; replace hs := hs.call0 ho; repeat' (first|refine vs (k:=?_)|fail)
  (with_reducible apply xs_call); exact rfl; exact rfl; exact flush_nil _
  rintro v w' ⟨rfl, ho⟩; replace hs := hs.call0 ho; repeat' (first|refine vs (k:=?_)|refine Nx.h ?_|fail)
  first | refine rt (hq := ?_) | refine rt' (hq := ?_)
  exact ⟨rfl, hs.only0 rfl⟩
end Go.Proofs.YtilajmcellffiaaGreatDoorX

namespace Go.Proofs.YtilajmcellffiaaGreatDoor
open Go
theorem pf_laid : laidOutB Tryz.prog = true := by kernel_rfl
theorem pf_maps : mapsRowed Tryz.prog = true := by kernel_rfl
theorem pf_keys : (true == Tryz.prog.plainKeys) = true := by kernel_rfl
theorem pf_heard : Tryz.prog.stopsHeard = true := by kernel_rfl
theorem pf_enter : Tryz.prog.mayEnter = true := by kernel_rfl
theorem pf_lift : (false == Tryz.prog.liftsFinal) = true := by kernel_rfl
theorem pf_make : (Tryz.prog.make == some .cut) = true := by kernel_rfl
theorem and_mk {a b : Bool} (h : a = true) (k : b = true) : (a && b) = true := by rw [h, k]; rfl
end Go.Proofs.YtilajmcellffiaaGreatDoor

namespace Go.Proofs.YtilajmcellffiaaGreatDoorX
open Go
theorem door_met (os : Os) (args : Array Value) : laidMetH Tryz.prog [("math/bits.deBruijn32tab", YtilajmcellffiaaGreatDoor.Rows.laid_math_bits_deBruijn32tab), ("math/bits.deBruijn64tab", YtilajmcellffiaaGreatDoor.Rows.laid_math_bits_deBruijn64tab), ("internal/strconv.uint64pow10", YtilajmcellffiaaGreatDoor.Rows.laid_internal_strconv_uint64pow10)] ((World.doorLaid Tryz.prog 24 os).forCall (fun _ _ => 0) ⟨#[], args, []⟩).memory :=
  laidMetH_of_parts3 (fuel := 8) (laidMet_of_run' 8 (by kernel_rfl) (by kernel_rfl)) (by kernel_rfl) (by kernel_rfl)
theorem pows_of {W : World} (h : laidMetH Tryz.prog [("math/bits.deBruijn32tab", YtilajmcellffiaaGreatDoor.Rows.laid_math_bits_deBruijn32tab), ("math/bits.deBruijn64tab", YtilajmcellffiaaGreatDoor.Rows.laid_math_bits_deBruijn64tab), ("internal/strconv.uint64pow10", YtilajmcellffiaaGreatDoor.Rows.laid_internal_strconv_uint64pow10)] W) : Pows W := by
  rw [MakeChecks.laidMetH_plain _ _ _ (by kernel_rfl)] at h
  have h2 := h.tail.tail
  exact Lib.tabIs_of_head (g := (Tryz.prog.globalNamed "internal/strconv.uint64pow10").getD 0) (t := 314) (e := 22) (n := 20) (by kernel_rfl) (by kernel_rfl) (by kernel_rfl) (by kernel_rfl) (by kernel_rfl) (by kernel_rfl) h2
end Go.Proofs.YtilajmcellffiaaGreatDoorX

namespace Go.Proofs.YtilajmcellffiaaGreatDoorX
open Go Go.RowKit Go.ChangeShapes Go.WideShapes Go.ChangeAt
set_option maxRecDepth 100000 in
theorem settleNone_lifted (os : Os) (started : os.Started) (H : Type) (enc : TypeId × Value → H) :
    ReturnsInHanded {} Tryz.checked os 4 .any (fun w args => (YtilajmcellffiaaGreatDoor.Rows.settleNoneSpec.pre enc Tryz.prog Tryz.f4 [] false w args ∧ laidMetH Tryz.prog [("math/bits.deBruijn32tab", YtilajmcellffiaaGreatDoor.Rows.laid_math_bits_deBruijn32tab), ("math/bits.deBruijn64tab", YtilajmcellffiaaGreatDoor.Rows.laid_math_bits_deBruijn64tab), ("internal/strconv.uint64pow10", YtilajmcellffiaaGreatDoor.Rows.laid_internal_strconv_uint64pow10)] w) ∧ sizedMet enc Tryz.prog Tryz.f4 (OpenSpec.ofChange YtilajmcellffiaaGreatDoor.Rows.settleNoneSpec) false w args) (YtilajmcellffiaaGreatDoor.Rows.settleNoneSpec.post enc Tryz.prog Tryz.f4 false true false false) := by
  refine returnsInHanded_of_change_and (C := Tryz.checked) (X := fun w _ => laidMetH Tryz.prog [("math/bits.deBruijn32tab", YtilajmcellffiaaGreatDoor.Rows.laid_math_bits_deBruijn32tab), ("math/bits.deBruijn64tab", YtilajmcellffiaaGreatDoor.Rows.laid_math_bits_deBruijn64tab), ("internal/strconv.uint64pow10", YtilajmcellffiaaGreatDoor.Rows.laid_internal_strconv_uint64pow10)] w) (fun _ _ _ hh h => h.of_heap hh) own started (by kernel_rfl) Tryz.func4
    (ChangeSpec.witness_shaped (enc := enc) (C := Tryz.checked) (os := os) (X := fun w _ => laidMetH Tryz.prog [("math/bits.deBruijn32tab", YtilajmcellffiaaGreatDoor.Rows.laid_math_bits_deBruijn32tab), ("math/bits.deBruijn64tab", YtilajmcellffiaaGreatDoor.Rows.laid_math_bits_deBruijn64tab), ("internal/strconv.uint64pow10", YtilajmcellffiaaGreatDoor.Rows.laid_internal_strconv_uint64pow10)] w) false (World.doorLaid Tryz.prog 24 os) #[] 8 rfl (World.shaped_of_RefB (by kernel_rfl) (by kernel_rfl)) (by kernel_rfl) (by kernel_rfl) (by kernel_rfl) (door_met os _)) ?_
  intro W base args ds gs before hval0 hW hcnd hsz0 hL _
  have hP := pows_of hL
  have hval : ∀ (j : Nat) t v, Tryz.f4.params[j]? = some t → args[j]? = some v → Value.okWide Tryz.prog W .any base t v := hval0
  have hW' := hW
  obtain ⟨p, q, hA0, hV, rfl, hfz, hnd⟩ := hW
  have hA : DataW.TrodAll enc Tryz.prog W 0 (fun _ => true) true Tryz.f4.params.toList args.toList ds p := hA0
  rw [Tryz.params4] at hA hval
  obtain ⟨hargs, rfl, rfl⟩ := trodAll_nil hA
  obtain rfl : args = #[] := by cases args; simp_all
  obtain ⟨rfl, rfl⟩ := trodVars_none hV
  clear hA0 hval0 hsz0
  refine (ret_calls (by kernel_rfl) (settleNone_ret W hP)).mono fun e W' ⟨v, he, hv, ho⟩ => ?_
  subst he hv
  have bel := ho.below
  exact ⟨_, rfl, _, _, _, [], _, [], hW', trodAll_mk1 (shut_bool (by kernel_rfl) _), trodAll_mk0, rfl, bel.frame _, fun h => by cases h⟩
end Go.Proofs.YtilajmcellffiaaGreatDoorX
namespace Go.Proofs.YtilajmcellffiaaGreatDoor
open Go Go.RowKit Go.ChangeShapes Go.WideShapes Go.ChangeAt
theorem settleNone_nm : Tryz.prog.funcNamed "turnstone/turnstonelaw17.SettleNone" = some 4 := by kernel_rfl
theorem settleNone_ip : (Rows.settleNoneRow.inPlace == Tryz.prog.inPlace 4) = true := by kernel_rfl
theorem settleNone_un : (Rows.settleNoneRow.unfollowed == Tryz.prog.unfollowed 4) = true := by kernel_rfl
theorem settleNone_rc : (Rows.settleNoneRow.recurses == Tryz.prog.recurses 4) = true := by kernel_rfl
theorem settleNone_nd : (Rows.settleNoneRow.named == Tryz.prog.varsNamed 4) = true := by kernel_rfl
theorem settleNone_holds : Rows.SettleNoneSaid :=
  OpenClaim.holds_of_wide 4 Tryz.f4 rfl rfl rfl rfl rfl rfl rfl ⟨rfl, rfl, rfl, rfl, rfl⟩ rfl rfl rfl rfl rfl settleNone_nm Tryz.func4
    (by unfold joinedFacts; exact (and_mk (and_mk (and_mk (and_mk (and_mk (and_mk (and_mk (and_mk (and_mk (and_mk (and_mk (and_mk (and_mk (and_mk (and_mk (and_mk (and_mk (and_mk (and_mk (and_mk (and_mk (and_mk (and_mk (and_mk (and_mk (and_mk (and_mk (and_mk (and_mk (and_mk (and_mk (by kernel_rfl) pf_laid) pf_maps) (by kernel_rfl)) (by kernel_rfl)) (by kernel_rfl)) (by kernel_rfl)) (by kernel_rfl)) (by kernel_rfl)) settleNone_ip) settleNone_un) settleNone_rc) settleNone_nd) (by kernel_rfl)) (by kernel_rfl)) (by kernel_rfl)) (by kernel_rfl)) (by kernel_rfl)) (by kernel_rfl)) (by kernel_rfl)) (by kernel_rfl)) (by kernel_rfl)) pf_keys) (by kernel_rfl)) pf_heard) pf_enter) pf_lift) pf_make) (by kernel_rfl)) (by kernel_rfl)) (by kernel_rfl)) (by kernel_rfl)))
    (of_decide_eq_true (by kernel_rfl)) (by unfold Func.isWrapper; first | (rw [if_pos (by decide +kernel)]; kernel_rfl) | (rw [if_neg (by decide +kernel)]; exact ⟨rfl, rfl⟩))
    (fun os started H enc _ => YtilajmcellffiaaGreatDoorX.settleNone_lifted os started H enc)
theorem settleNone_w : Rows.settleNoneRow.wfByText (OpenSpec.ofChange Rows.settleNoneSpec) = true := by kernel_rfl
theorem settleNone_mn : Tryz.prog.mainIs = some (Rows.settleNoneCard.stood.harness.1, Rows.settleNoneCard.stood.harness.2.toList) := by kernel_rfl
theorem settleNone_lk : Rows.settleNoneCard.stood.looks = Tryz.prog.looks [] := by kernel_rfl
theorem settleNone_gs : false = Rows.settleNoneRow.goesBy Tryz.prog := by kernel_rfl
theorem settleNone_card : Rows.SettleNoneCardSaid :=
  Claim7.holds_tied_plain_at .later [] [.data, .data, .data] true Rows.settleNoneCard.stood.harness Rows.settleNoneCard.stood.looks
    settleNone_holds (fun _ h => by cases h) settleNone_w (fun _ h => by cases h) settleNone_row_tie rfl ⟨rfl, rfl⟩ settleNone_mn rfl
    (fun f fn hf hfn => by
      obtain rfl : f = 4 := Option.some.inj (settleNone_nm.symm.trans hf) |>.symm
      obtain rfl : fn = Tryz.f4 := (Option.some.inj (Tryz.func4.symm.trans hfn)).symm
      exact ⟨settleNone_lk, fun j t ht => by
        rw [Tryz.params4] at ht
        have hm : t ∈ [] := by simpa using Array.mem_of_getElem? ht
        have hall : ([].all fun u => !Tryz.prog.wantsStandIn u) = true := by kernel_rfl
        exact (show Tryz.prog.wantsStandIn t = false by simpa using List.all_eq_true.1 hall t hm)⟩)
    settleNone_gs
end Go.Proofs.YtilajmcellffiaaGreatDoor
