/- A part of the proof: what its functions compute. -/
import Derived.Test.YtdkmhjiojealoaaGreatDoorA9
import Derived.Test.YtdkmhjiojealoaaGreatDoorRows
import Derived.JoinedOf
import Derived.Test.YtdkmhjiojealoaaGreatDoorTie
import Derived.Lib.LaidTab
import Derived.Stop.LaidErr
import Derived.MakeChecks
import Derived.LaidMore
import Derived.LaidLaws
set_option linter.unusedVariables false
set_option linter.unusedSimpArgs false
set_option maxRecDepth 100000
namespace Go.Proofs.YtdkmhjiojealoaaGreatDoorX
open Go Go.RowKit
attribute [local irreducible] XS XC XA thenE blockE retE loopE loopS cutB cutN doneE SE
theorem ishift_ret (x : It) (t : Int) (w0 : World) : Ret Tryz.prog 8 #[iv x, .int .u64 t] w0 fun v w' => v = iv (shI t x) ∧ Only [] w0 w' := by
  have hs := St.nil w0
  refine ret_of_xc Tryz.func8 (by kernel_rfl) rfl Tryz.ntmps8 rfl rfl rfl ?_
  repeat' (first|(refine al hs (k:=?_);intro b w hz hs)|(refine bx hs (k:=?_);intro b w hz hs)|refine qRg ?_|refine Nx.h ?_|fail)
  refine dr [9, 11] hs (k := ?_); intro hX w hs
  refine tk 0 hX (k := ?_)
  refine tk 1 hX (k := ?_)
  refine tk 2 hX (k := ?_)
  refine tk 4 hX (k := ?_)
  refine tk 5 hX (k := ?_)
  refine tk 6 hX (k := ?_)
  refine dt 3 hX (k := ?_)
  (with_reducible apply xs_call); exact rfl; exact rfl; exact pshift_ret x.p t _
  rintro v w' ⟨rfl, ho⟩; replace hs := hs.call0 ho; repeat' (first|refine Nx.h ?_|fail)
  refine dn (k := ?_)
  refine tk 8 hX (k := ?_)
  refine dt 7 hX (k := ?_)
  (with_reducible apply xs_call); exact rfl; exact rfl; exact pshift_ret x.d t _
  rintro v w' ⟨rfl, ho⟩; replace hs := hs.call0 ho; repeat' (first|refine Nx.h ?_|fail)
  refine dn (k := ?_)
  refine dt 9 hX (k := ?_)
  repeat' (first|(refine stA hs (k:=?_);intro w hs)|refine Nx.h ?_|fail)
  refine dn (k := ?_)
  refine tk 10 hX (k := ?_)
  refine dt 11 hX (k := ?_)
  repeat' (first|(refine stA hs (k:=?_);intro w hs)|refine Nx.h ?_|fail)
  refine dn (k := ?_)
  refine en (k := ?_)
  repeat' (first|refine vs (k:=?_)|(refine stA hs (k:=?_);intro w hs)|refine qRg ?_|refine Nx.h ?_|fail)
  first | refine rt (hq := ?_) | refine rt' (hq := ?_)
  exact ⟨rfl, hs.only0 rfl⟩
theorem neIt (p : It) : (!(cellEq (.int .u64 p.p.t) (.int .u64 p.p.t) && (cellEq (.int .u32 p.p.r) (.int .u32 p.p.r) && (cellEq (.int .u32 p.p.w) (.int .u32 p.p.w) && (cellEq (.int .i64 p.id) (.int .i64 p.id) && (cellEq (.int .u64 p.d.t) (.int .u64 p.d.t) && (cellEq (.int .u32 p.d.r) (.int .u32 p.d.r) && cellEq (.int .u32 p.d.w) (.int .u32 p.d.w)))))))) = false := by
  show (!((p.p.t == p.p.t) && ((p.p.r == p.p.r) && ((p.p.w == p.p.w) && ((p.id == p.id) && ((p.d.t == p.d.t) && ((p.d.r == p.d.r) && (p.d.w == p.d.w)))))))) = false
  simp
abbrev ac16O (a : Ac16) : Obj := .cells #[.int .u8 a.d, .int .u64 a.r.1.i.p.t, .int .u32 a.r.1.i.p.r, .int .u32 a.r.1.i.p.w, .int .i64 a.r.1.i.id, .int .u64 a.r.1.i.d.t, .int .u32 a.r.1.i.d.r, .int .u32 a.r.1.i.d.w, .int .u64 a.r.1.left, .int .u64 a.r.1.slice, .bool a.r.1.asleep] 36 (0, 0)
def actsS (A : As) (l : List Ac16) : As := l.foldl actS A
theorem actsS_snoc (A : As) (l : List Ac16) (a : Ac16) : actsS A (l ++ [a]) = actS (actsS A l) a := by unfold actsS; rw [List.foldl_append]; rfl
def entsS (A : As) (l : List Ac16) : As := l.foldl (fun A a => entA A a.r) A
theorem entsS_snoc (A : As) (l : List Ac16) (a : Ac16) : entsS A (l ++ [a]) = entA (entsS A l) a.r := by unfold entsS; rw [List.foldl_append]; rfl
theorem SetAt.mem2 {w : World} {sb : Nat} {A : As} {F : List Nat} (h : SetAt w sb A F) : sb ∈ F := by
  obtain ⟨s, ⟨qb, mb, Fq, rfl, _⟩, _⟩ := h
  simp
end Go.Proofs.YtdkmhjiojealoaaGreatDoorX

namespace Go.Proofs.YtdkmhjiojealoaaGreatDoorX
open Go Go.RowKit
structure TwoS (w0 : World) (sb ub : Nat) (A B : As) (F G : List Nat) (w : World) : Prop where
  a : SetAt w sb A F
  b : SetAt w ub B G
  d : ∀ k ∈ F, k ∉ G
  f : ∀ k ∈ F, w0.heap.size ≤ k
  g : ∀ k ∈ G, w0.heap.size ≤ k
  o : Only [] w0 w
section
variable {w0 w w' : World} {sb ub : Nat} {A A' B B' : As} {F G : List Nat}
theorem TwoS.keep (h : TwoS w0 sb ub A B F G w) (ho : Only [] w w') : TwoS w0 sb ub A B F G w' := ⟨h.a.only ho, h.b.only ho, h.d, h.f, h.g, h.o.trans ho⟩
theorem TwoS.left (h : TwoS w0 sb ub A B F G w) (hl : Left w sb A' F w') : ∃ F', TwoS w0 sb ub A' B F' G w' := by
  obtain ⟨F', h1, h2, h3⟩ := hl
  have hz := h.o.size
  refine ⟨F', h1, h.b.keepD h3 (fun k hk hm => h.d k hm hk), fun k hk hm => ?_, fun k hk => ?_, h.g, h.o.step h3 (fun k hk => .inr (h.f k hk))⟩
  · rcases h2 k hk with q | q
    · exact h.d k q hm
    · have := h.b.lt k hm; omega
  · rcases h2 k hk with q | q
    · exact h.f k q
    · omega
theorem TwoS.right (h : TwoS w0 sb ub A B F G w) (hl : Left w ub B' G w') : ∃ G', TwoS w0 sb ub A B' F G' w' := by
  obtain ⟨G', h1, h2, h3⟩ := hl
  have hz := h.o.size
  refine ⟨G', h.a.keepD h3 h.d, h1, fun k hk hm => ?_, h.f, fun k hk => ?_, h.o.step h3 (fun k hk => .inr (h.g k hk))⟩
  · rcases h2 k hm with q | q
    · exact h.d k hk q
    · have := h.a.lt k hk; omega
  · rcases h2 k hk with q | q
    · exact h.g k q
    · omega
end
end Go.Proofs.YtdkmhjiojealoaaGreatDoorX

namespace Go.Proofs.YtdkmhjiojealoaaGreatDoorX
open Go Go.RowKit
open IB (IT ITsAt flatT)
attribute [local irreducible] XS XC XA thenE blockE retE loopE loopS cutB cutN doneE SE
def rk : RT := ⟨⟨⟨⟨3, 0, 1⟩, 1, ⟨5242883, 0, 1⟩⟩, 5, 5, false⟩, by decide⟩
theorem k1 : newR ⟨3, 0, 1⟩ 1 5 = some rk.1 := by kernel_rfl
theorem k2 : enterE (newS 0) rk = 0 := by kernel_rfl
theorem k3 : (enterS (newS 0) rk).l = [rk] := by kernel_rfl
theorem k4 : (rouseS (enterS (newS 0) rk) 1 true).l = [wakeR rk true] := by kernel_rfl
theorem k5 : rouseE (enterS (newS 0) rk) 1 = 0 := by kernel_rfl
set_option maxHeartbeats 4000000 in
theorem awake16_ret (w0 : World) (ht : Pows w0) : Ret Tryz.prog 11 #[] w0 fun v w' => v = .bool true ∧ Only [] w0 w' := by
  have hs := St.nil w0
  refine ret_of_xc Tryz.func11 (by kernel_rfl) rfl Tryz.ntmps11 rfl rfl rfl ?_
  repeat' (first|refine vs (k:=?_)|refine qRg ?_|refine Nx.h ?_|fail)
  (with_reducible apply xs_call); exact rfl; exact rfl; exact snew_ret 0 (by decide) _
  rintro v w1 ⟨⟨sb, F0, rfl, hS, hF0⟩, ho1⟩
  have hF0 : ∀ k ∈ F0, w0.heap.size ≤ k := fun k hk => by have := hF0 k hk; have := hs.size; omega
  have hz1 := ho1.size
  have hq := hs.call0 ho1
  have ho1' := hq.only0 rfl
  clear hs hq
  have hs := St.nil w1
  repeat' (first|refine vs (k:=?_)|refine qRg ?_|refine Nx.h ?_|fail)
  (with_reducible apply xs_call); exact rfl; exact rfl; exact runnable_ret sb (newS 0) F0 _ hS (by decide)
  rw [show runN (newS 0).l = 0 from rfl]
  rintro v w2 ⟨rfl, ho2⟩; replace hs := hs.call0 ho2
  repeat' (first|refine vs (k:=?_)|refine qRg ?_|refine Nx.h ?_|refine qCf ?_|fail)
  (with_reducible apply xs_call); exact rfl; exact rfl; exact rnew_ret ⟨3, 0, 1⟩ 1 5 (by decide) (by decide) (by decide) _
  rw [k1]
  rintro v w' ⟨rfl, ho⟩; replace hs := hs.call0 ho; repeat' (first|refine vs (k:=?_)|(refine stA hs (k:=?_);intro w hs)|(refine al hs (k:=?_);intro b w hz hs)|refine qRg ?_|refine Nx.h ?_|fail)
  have hSw := hS.only (hs.only0 rfl)
  have hzw := hs.size
  (with_reducible apply xs_call); exact rfl; exact rfl; exact enter_ret sb (newS 0) F0 rk _ hSw (by decide) (by decide) (by decide)
  rw [k2]
  rintro v w3 ⟨rfl, F1, hS3, hF1, ho3⟩
  replace hs := hs.call ho3 (hSw.apart hs rfl) (by simp [D0])
  have hF1' : ∀ k ∈ F1, w0.heap.size ≤ k := fun k hk => by
    rcases hF1 k hk with h | h
    · exact hF0 k h
    · omega
  have hm : ∀ w', Only (F0 ++ []) w1 w' → Only [] w0 w' := fun w' ho => ho1'.step ho (fun k hk => by
    rw [List.append_nil] at hk
    exact .inr (hF0 k hk))
  have hm2 : ∀ w', Only (F1 ++ (F0 ++ [])) w1 w' → Only [] w0 w' := fun w' ho => ho1'.step ho (fun k hk => by
    rw [List.append_nil, List.mem_append] at hk
    rcases hk with hk | hk
    · exact .inr (hF1' k hk)
    · exact .inr (hF0 k hk))
  have e3 := k3
  have e4 := k4
  have e5 := k5
  generalize enterS (newS 0) rk = s1 at *
  repeat' (first|refine vs (k:=?_)|refine qRg ?_|refine Nx.h ?_|fail)
  (with_reducible apply xs_call); exact rfl; exact rfl; exact Awake15_ret _ (tab_only ht (hm _ hs.only))
  rintro v w4 ⟨rfl, ho4⟩; replace hS3 := hS3.only ho4; replace hs := hs.call0 ho4
  repeat' (first|refine vs (k:=?_)|fail)
  (with_reducible apply xs_call); exact rfl; exact rfl; exact runnable_ret sb s1 F1 _ hS3 (by rw [e3]; decide)
  rw [e3, show runN [rk] = 1 from rfl]
  rintro v w5 ⟨rfl, ho5⟩; replace hS3 := hS3.only ho5; replace hs := hs.call0 ho5
  repeat' (first|refine vs (k:=?_)|fail)
  (with_reducible apply xs_call); exact rfl; exact rfl; exact rouse_ret sb s1 F1 1 true _ hS3 (by decide) (by rw [e3]; decide)
  rw [e5]
  rintro v w6 ⟨rfl, hS6, ho6⟩
  replace hs := hs.call ho6 (hS3.apart hs rfl) (by simp [D0])
  repeat' (first|refine vs (k:=?_)|fail)
  (with_reducible apply xs_call); exact rfl; exact rfl; exact runnable_ret sb (rouseS s1 1 true) F1 _ hS6 (by rw [e4]; decide)
  rw [e4, show runN [wakeR rk true] = 0 from rfl]
  rintro v w7 ⟨rfl, ho7⟩; replace hs := hs.call0 ho7
  repeat' (first|refine vs (k:=?_)|refine Nx.h ?_|fail)
  first | refine rt (hq := ?_) | refine rt' (hq := ?_)
  exact ⟨rfl, hm2 _ hs.only⟩
theorem Awake16_ret (w0 : World) (ht : Pows w0) : Ret Tryz.prog 18 #[] w0 fun v w' => v = .bool true ∧ Only [] w0 w' := by
  have hs := St.nil w0
  refine ret_of_xc Tryz.func18 (by kernel_rfl) rfl Tryz.ntmps18 rfl rfl rfl ?_
  repeat' (first|refine vs (k:=?_)|refine qRg ?_|refine Nx.h ?_|fail)
  (with_reducible apply xs_call); exact rfl; exact rfl; exact awake16_ret _ ht
  rintro v w' ⟨rfl, ho⟩; replace hs := hs.call0 ho; repeat' (first|refine vs (k:=?_)|refine Nx.h ?_|fail)
  first | refine rt (hq := ?_) | refine rt' (hq := ?_)
  exact ⟨rfl, hs.only0 rfl⟩
end Go.Proofs.YtdkmhjiojealoaaGreatDoorX

namespace Go.Proofs.YtdkmhjiojealoaaGreatDoor
open Go
theorem pf_laid : laidOutB Tryz.prog = true := by kernel_rfl
theorem pf_maps : mapsRowed Tryz.prog = true := by kernel_rfl
theorem pf_keys : (true == Tryz.prog.plainKeys) = true := by kernel_rfl
theorem pf_heard : Tryz.prog.stopsHeard = true := by kernel_rfl
theorem pf_enter : Tryz.prog.mayEnter = true := by kernel_rfl
theorem pf_lift : (false == Tryz.prog.liftsFinal) = true := by kernel_rfl
theorem pf_make : (Tryz.prog.make == some .cut) = true := by kernel_rfl
theorem and_mk {a b : Bool} (h : a = true) (k : b = true) : (a && b) = true := by rw [h, k]; rfl
end Go.Proofs.YtdkmhjiojealoaaGreatDoor

namespace Go.Proofs.YtdkmhjiojealoaaGreatDoorX
open Go
theorem door_met (os : Os) (args : Array Value) : laidMetH Tryz.prog [("math/bits.deBruijn32tab", YtdkmhjiojealoaaGreatDoor.Rows.laid_math_bits_deBruijn32tab), ("math/bits.deBruijn64tab", YtdkmhjiojealoaaGreatDoor.Rows.laid_math_bits_deBruijn64tab), ("internal/strconv.uint64pow10", YtdkmhjiojealoaaGreatDoor.Rows.laid_internal_strconv_uint64pow10)] ((World.doorLaid Tryz.prog 24 os).forCall (fun _ _ => 0) ⟨#[], args, []⟩).memory :=
  laidMetH_of_parts3 (fuel := 8) (laidMet_of_run' 8 (by kernel_rfl) (by kernel_rfl)) (by kernel_rfl) (by kernel_rfl)
theorem pows_of {W : World} (h : laidMetH Tryz.prog [("math/bits.deBruijn32tab", YtdkmhjiojealoaaGreatDoor.Rows.laid_math_bits_deBruijn32tab), ("math/bits.deBruijn64tab", YtdkmhjiojealoaaGreatDoor.Rows.laid_math_bits_deBruijn64tab), ("internal/strconv.uint64pow10", YtdkmhjiojealoaaGreatDoor.Rows.laid_internal_strconv_uint64pow10)] W) : Pows W := by
  rw [MakeChecks.laidMetH_plain _ _ _ (by kernel_rfl)] at h
  have h2 := h.tail.tail
  exact Lib.tabIs_of_head (g := (Tryz.prog.globalNamed "internal/strconv.uint64pow10").getD 0) (t := 214) (e := 22) (n := 20) (by kernel_rfl) (by kernel_rfl) (by kernel_rfl) (by kernel_rfl) (by kernel_rfl) (by kernel_rfl) h2
end Go.Proofs.YtdkmhjiojealoaaGreatDoorX
