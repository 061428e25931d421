/- A part of the proof: what its functions compute. -/
import Derived.Test.YtilajmcellffiaaGreatDoorB9
import Derived.Test.YtilajmcellffiaaGreatDoorRows
import Derived.WalkKit
import Derived.ProofKit
import Derived.OpenShut
import Derived.ShutString
import Derived.ChangeOld
import Derived.Below
import Derived.SizedLaws
import Derived.Lib.SmallJoins
import Derived.JoinedOf
import Derived.Test.YtilajmcellffiaaGreatDoorTie
import Derived.Lib.LaidTab
import Derived.Stop.LaidErr
import Derived.MakeChecks
import Derived.LaidMore
import Derived.LaidLaws
set_option linter.unusedVariables false
set_option linter.unusedSimpArgs false
set_option maxRecDepth 100000
namespace Go.Proofs.YtilajmcellffiaaGreatDoorX
open Go Go.RowKit
attribute [local irreducible] XS XC XA thenE blockE retE loopE loopS cutB cutN doneE SE
theorem getL_in (l : List RT) (i : Int) : (getL l i).In := by
  unfold getL
  cases findR l i with
  | none => decide
  | some a => exact a.2
def srvN (c : Cs) (most : Int) : Int := lessN most (getL c.A.l c.run).left
def srvO (c : Cs) (most : Int) : Option (Rq × Bool) := serveR (getL c.A.l c.run) (srvN c most)
def srvY (c : Cs) (most : Int) : RT := toRT (match srvO c most with | some x => x.1 | none => .zero)
def srvE (c : Cs) (most : Int) : Int := putE c.A (srvY c most)
def srvA (c : Cs) (most : Int) : Cs := ⟨putA c.A (srvY c most), c.run, c.carr⟩
def srvP (c : Cs) (most : Int) : Pr := ⟨c.run, srvN c most, match srvO c most with | some x => x.2 | none => false⟩
def srvR (c : Cs) (most : Int) (r : Rp) : Rp := ⟨r.g ++ goneC (srvA c most), r.p ++ [srvP c most]⟩
theorem srvY_eq (c : Cs) (most : Int) (hm : U64 most) : (srvY c most).1 = (match srvO c most with | some x => x.1 | none => .zero) ∧ U64 (srvN c most) := by
  have h1 : U64 (srvN c most) := lessN_in hm (getL_in _ _).2.1
  refine ⟨toRT_eq ?_, h1⟩
  cases e : srvO c most with
  | none => show Rq.zero.In; decide
  | some x => exact serveR_in (getL_in c.A.l c.run) h1 (show serveR _ _ = some (x.1, x.2) from e)
theorem flatPr_snoc (l : List Pr) (p : Pr) : flatPr (l ++ [p]) = flatPr l ++ p.cells := by simp [flatPr]
set_option maxHeartbeats 8000000 in
theorem serve_ret (cb rb : Nat) (c : Cs) (most : Int) (r : Rp) (F Fr : List Nat) (w0 : World) (h : CAt w0 cb c F) (hr : RpAt w0 rb r Fr) (hm : U64 most) (hg : r.g.length ≤ 1000000) (hp' : r.p.length < 1000000) :
    Ret Tryz.prog 211 #[.pointer (some ⟨cb, 0, none⟩), .int .u64 most, .pointer (some ⟨rb, 0, none⟩)] w0 fun v w' => v = .tuple #[.int .u64 (if srvE c most = 0 then srvN c most else 0), .int .i64 (srvE c most)] ∧
      (srvE c most = 0 → ∃ F' Fr', CAt w' cb (setC (srvA c most)) F' ∧ RpAt w' rb (srvR c most r) Fr' ∧ (∀ k ∈ F', k ∈ F ∨ w0.heap.size ≤ k) ∧ (∀ k ∈ Fr', k ∈ Fr ∨ w0.heap.size ≤ k)) ∧ Only (F ++ Fr) w0 w' := by
  have hC0 := h
  have hR0 := hr
  have hap := hr.apart h
  obtain ⟨sb, Fs, rfl, h1, hS, h3, h4⟩ := h
  obtain ⟨vg, vp, Gg, Gp, rfl, r1, r2, r3⟩ := hr
  have hs := ((St.nil w0).trackT h1).trackT r1
  refine ret_of_xc Tryz.func211 (by kernel_rfl) rfl Tryz.ntmps211 rfl rfl rfl ?_
  repeat' (first|refine vs (k:=?_)|refine qRg ?_|refine Nx.h ?_|fail)
  refine dr [] hs (k := ?_); intro hX w hs
  refine tk 0 hX (k := ?_)
  refine tk 1 hX (k := ?_)
  refine tk 2 hX (k := ?_)
  refine tk 3 hX (k := ?_)
  refine tk 4 hX (k := ?_)
  refine tk 5 hX (k := ?_)
  refine tk 6 hX (k := ?_)
  refine tk 7 hX (k := ?_)
  refine pd0 12 8 hs (k := ?_); intro f X w hp; have hs := hp.st
  apply xa_pend 8 12 (f := f) (X := X) hX hp; exact rfl; exact rfl; (first | (apply makes_alloc tabOk; exact rfl) | (apply makes_slice tabOk; exact rfl; exact rfl; exact rfl; exact rfl; exact rfl; (intro X; ((repeat (first | exact Bld.nil | (apply Bld.one; exact rfl; (conv => lhs; whnf); exact rfl; (repeat (first | exact PutL.nil | apply PutL.skip | apply PutL.cons))) | (apply Bld.agg; exact rfl; exact rfl; exact rfl; (repeat (first | exact PutL.nil | apply PutL.skip | apply PutL.cons))))))))); kernel_rfl; kernel_rfl; kernel_rfl; kernel_rfl; (intro X Y; (repeat (first | exact pgg_base | refine pgg_step ?_ (by exact rfl)))); (intro w' hs; ((first | exact se_hold hs.hold | exact se_hold (hold_sim hs.hold rfl) | exact se_hold (hold_sim hs.hold.tail rfl) | exact se_hold (hR hs rfl) | exact se_hold hs.hold.tail | exact se_hold hs.hold.tail.tail | exact se_hold hs.hold.tail.tail.tail | exact se_done rfl))); intro f X w hp; have hs := hp.st
  have ho := hs.onlyF [] (by simp [h1, r1]) (by simp [D0])
  (with_reducible apply xs_call); exact rfl; exact rfl; exact areq_ret sb c.A Fs c.run _ (hS.only ho) h4
  have hx := getL_in c.A.l c.run
  obtain ⟨eY, eN⟩ := srvY_eq c most hm
  have eN' : srvN c most = lessN most (getL c.A.l c.run).left := rfl
  have eO : srvO c most = serveR (getL c.A.l c.run) (srvN c most) := rfl
  have eP : srvP c most = ⟨c.run, srvN c most, match srvO c most with | some x => x.2 | none => false⟩ := rfl
  have eE : srvE c most = putE c.A (srvY c most) := rfl
  have eA : srvA c most = ⟨putA c.A (srvY c most), c.run, c.carr⟩ := rfl
  have eR : srvR c most r = ⟨r.g ++ goneC (srvA c most), r.p ++ [srvP c most]⟩ := rfl
  generalize getL c.A.l c.run = x at *
  rintro v w' ⟨rfl, ho⟩; replace hp := hp.only ho; replace hs := hp.st; repeat' (first|refine Nx.h ?_|fail)
  refine dn (k := ?_)
  refine tk 9 hX (hc := by cases f <;> kernel_rfl) (k := ?_)
  refine tk 10 hX (hc := by cases f <;> kernel_rfl) (k := ?_)
  refine tk 11 hX (hc := by cases f <;> kernel_rfl) (k := ?_)
  apply xa_pendE 12 (f := f) (X := X) hX hp; exact rfl; (first | (apply makes_alloc tabOk; exact rfl) | (apply makes_slice tabOk; exact rfl; exact rfl; exact rfl; exact rfl; exact rfl; (intro X; ((repeat (first | exact Bld.nil | (apply Bld.one; exact rfl; (conv => lhs; whnf); exact rfl; (repeat (first | exact PutL.nil | apply PutL.skip | apply PutL.cons))) | (apply Bld.agg; exact rfl; exact rfl; exact rfl; (repeat (first | exact PutL.nil | apply PutL.skip | apply PutL.cons))))))))); kernel_rfl; kernel_rfl; (intro X Y; (repeat (first | exact pgg_base | refine pgg_step ?_ (by exact rfl)))); (intro w' hs; ((first | exact se_hold hs.hold | exact se_hold (hold_sim hs.hold rfl) | exact se_hold (hold_sim hs.hold.tail rfl) | exact se_hold (hR hs rfl) | exact se_hold hs.hold.tail | exact se_hold hs.hold.tail.tail | exact se_hold hs.hold.tail.tail.tail | exact se_done rfl))); intro b w hI hs
  refine dt 13 hX (k := ?_)
  repeat' (first|(refine stA hs (k:=?_);intro w hs)|refine Nx.h ?_|fail)
  refine dn (k := ?_)
  refine tk 14 hX (k := ?_)
  refine en (k := ?_)
  repeat' (first|refine vs (k:=?_)|refine qRg ?_|refine Nx.h ?_|fail)
  rw [show (if x.left < most then x.left else most) = srvN c most from eN'.symm]
  generalize srvN c most = n at *
  have hsv : ∃ u bd ok, svV (srvO c most) = .tuple #[rv u, .bool bd, .bool ok] ∧ (srvY c most).1 = u ∧ srvP c most = ⟨c.run, n, bd⟩ := by
    rw [eY, eP]
    cases srvO c most with
    | none => exact ⟨_, _, _, rfl, rfl, rfl⟩
    | some y => exact ⟨_, _, _, rfl, rfl, rfl⟩
  obtain ⟨u, bd, ok, hsv, hYu, hPe⟩ := hsv
  rw [eO] at hsv
  (with_reducible apply xs_call); exact rfl; exact rfl; exact rserve_ret x n hx eN _
  rw [hsv]
  clear eO eP hsv eY
  generalize srvY c most = Y at *
  generalize srvP c most = P at *
  generalize srvA c most = c2 at *
  generalize srvE c most = e at *
  generalize srvR c most r = R at *
  subst hYu hPe
  rintro v w' ⟨rfl, ho⟩; replace hs := hs.call0 ho; repeat' (first|refine vs (k:=?_)|(refine stA hs (k:=?_);intro w hs)|(refine al hs (k:=?_);intro b w hz hs)|refine Nx.h ?_|fail)
  have ho := hs.onlyF [] (by simp [h1, r1]) (by simp [D0])
  have x1 := hs.get (b := cb) (o := coreO sb c.run c.carr) (by repeat (first | exact At.head | (with_reducible apply At.tail)))
  have x2 := hs.get (b := b) (by repeat (first | exact At.head | (with_reducible apply At.tail)))
  have x3 := hs.get (b := rb) (o := repO vg vp) (by repeat (first | exact At.head | (with_reducible apply At.tail)))
  clear hs
  obtain ⟨bY, rfl⟩ : ∃ z, z = b := ⟨_, rfl⟩
  have hs := (((St.nil _).trackT x1).trackT x2).trackT x3
  refine dr [] hs (k := ?_); intro hX w hs
  refine tk 0 hX (k := ?_)
  refine tk 1 hX (k := ?_)
  refine tk 2 hX (k := ?_)
  refine tk 3 hX (k := ?_)
  refine tk 4 hX (k := ?_)
  refine dt 5 hX (k := ?_)
  have ho1 := hs.onlyF [] (by simp [x1, x2, x3]) (by simp [D0])
  have hSw := hS.only (ho.trans ho1)
  (with_reducible apply xs_call); exact rfl; exact rfl; exact aput_ret sb c.A Fs Y _ hSw
  rw [← eE]
  rintro v w2 ⟨rfl, F2, hS2, hF2, ho2⟩
  have n1 : cb ∉ Fs := CAt.nod h1 hS
  have n3 : rb ∉ Fs := hS.not r1 rfl
  have y1 := ho2.block (hs.get (b := cb) (o := coreO sb c.run c.carr) (by repeat (first | exact At.head | (with_reducible apply At.tail)))) n1
  have y3 := ho2.block (hs.get (b := rb) (o := repO vg vp) (by repeat (first | exact At.head | (with_reducible apply At.tail)))) n3
  have y2 := ho2.block (hs.get (b := bY) (by repeat (first | exact At.head | (with_reducible apply At.tail)))) (hSw.not (hs.get (b := bY) (by repeat (first | exact At.head | (with_reducible apply At.tail)))) rfl)
  have hoA : Only ((cb :: Fs) ++ (rb :: (Gg ++ Gp))) w0 w2 := ((ho.trans ho1).weaken (by simp)).step ho2 (fun k hk => .inl (by simp [hk]))
  have hz0 := (ho.trans ho1).size
  have hR2 : RpAt w2 rb r (rb :: (Gg ++ Gp)) := (hR0.only (ho.trans ho1)).keepD ho2 (fun k hk hm => hap k hk (by simp [hm]))
  clear hs
  have hs := (((St.nil w2).trackT y1).trackT y2).trackT y3
  repeat' (first|refine Nx.h ?_|fail)
  refine dn (k := ?_)
  refine tk 6 hX (k := ?_)
  refine en (k := ?_)
  by_cases he : e = 0
  · subst he
    rw [if_pos (rfl : (0 : Int) = 0)]
    repeat' (first|refine vs (k:=?_)|refine qRg ?_|refine Nx.h ?_|refine qCf ?_|fail)
    obtain ⟨vg', vp', Gg', Gp', eF, q1, q2, q3⟩ := hR2
    obtain ⟨rfl, rfl⟩ : vg = vg' ∧ vp = vp' := by rw [y3] at q1; simp only [Option.some.injEq, Obj.cells.injEq] at q1; have := congrArg Array.toList q1.1; simp at this; exact this
    refine dr [16] hs (k := ?_); intro hX w hs
    refine tk 0 hX (k := ?_)
    refine tk 1 hX (k := ?_)
    refine tk 2 hX (k := ?_)
    refine tk 3 hX (k := ?_)
    refine tk 4 hX (k := ?_)
    refine tk 5 hX (k := ?_)
    refine tk 6 hX (k := ?_)
    refine tk 7 hX (k := ?_)
    refine tk 8 hX (k := ?_)
    refine tk 9 hX (k := ?_)
    refine tk 10 hX (k := ?_)
    refine tk 11 hX (k := ?_)
    refine dt 12 hX (k := ?_)
    repeat' (first|(refine bs hs (k:=?_);intro b w hz hs)|refine Nx.h ?_|fail)
    refine dn (k := ?_)
    refine dt 13 hX (k := ?_)
    have hoB := hs.onlyF [] (by simp [y1, y2, y3]) (by simp [D0])
    refine xs_appendW tabOk rfl rfl rfl rfl rfl rfl rfl (by decide) (lit_cells (news := Pr.cells ⟨c.run, n, bd⟩) (hs.get At.head)) (by simp [Value.oneCell']) (q3.keep hoB (by simp)) (by omega) (by omega) ?_
    intro v3 w3 ⟨G3, hG3, hG3n⟩ ho3
    obtain ⟨a3, cp3, rfl⟩ := slv_form hG3
    have d1 : ∀ k ∈ Gp', k ≠ cb ∧ k ≠ rb ∧ k ≠ bY := fun k hk => ⟨fun e => slv_ne q3 y1 (by decide) (e ▸ hk), fun e => slv_ne q3 y3 (by decide) (e ▸ hk), fun e => slv_ne q3 y2 (by decide) (e ▸ hk)⟩
    have z1 := ho3.block (hs.get (b := cb) (o := coreO sb c.run c.carr) (by repeat (first | exact At.head | (with_reducible apply At.tail)))) (fun hm => (d1 _ hm).1 rfl)
    have z2 := ho3.block (hs.get (b := bY) (by repeat (first | exact At.head | (with_reducible apply At.tail)))) (fun hm => (d1 _ hm).2.2 rfl)
    have z3 := ho3.block (hs.get (b := rb) (o := repO vg vp) (by repeat (first | exact At.head | (with_reducible apply At.tail)))) (fun hm => (d1 _ hm).2.1 rfl)
    have hoC3 : Only Gp' w2 w3 := (hoB.weaken (by simp)).step ho3 (fun k hk => .inl hk)
    have hz3 := hoC3.size
    have hzB := hoB.size
    have hoC3' : Only (F2 ++ (rb :: (Gg ++ Gp))) w2 w3 := hoC3.weaken (fun k hk => by
      have : k ∈ rb :: (Gg' ++ Gp') := by simp [hk]
      rw [← eF] at this
      exact List.mem_append_right _ this)
    have hSn : ∀ k ∈ F2, k ∉ Gp' := fun k hk hm => by
      obtain ⟨cs, hc⟩ := slv_at q3 k hm
      exact hS2.not hc rfl hk
    have hS3 := hS2.keepD hoC3 hSn
    have hG3' := q2.keep hoC3 (slv_two q2 q3 (by decide))
    clear hs
    have hs := (((St.nil w3).trackT z1).trackT z2).trackT z3
    repeat' (first|refine Nx.h ?_|fail)
    refine dn (k := ?_)
    refine tk 14 hX (k := ?_)
    refine tk 15 hX (k := ?_)
    refine dt 16 hX (k := ?_)
    repeat' (first|(refine st hs (k:=?_);intro w hs)|refine Nx.h ?_|fail)
    refine dn (k := ?_)
    refine en (k := ?_)
    have f1 := hs.get (b := cb) (o := coreO sb c.run c.carr) (by repeat (first | exact At.head | (with_reducible apply At.tail)))
    have f3 := hs.get (b := rb) (by repeat (first | exact At.head | (with_reducible apply At.tail)))
    have hoD : Only [rb] w3 _ := hs.onlyF [rb] (by simp [z1, z2]) (by simp [D0])
    have n4 : rb ∉ F2 := fun hm => by
      rcases hF2 rb hm with h | h
      · exact n3 h
      · have := lt_of_block r1; omega
    have hS4 := hS3.keepD hoD (fun k hk hm => by obtain rfl := List.mem_singleton.1 hm; exact n4 hk)
    have hG4 := hG3'.keep hoD (fun k hk hm => by obtain rfl := List.mem_singleton.1 hm; exact slv_ne hG3' z3 (by decide) hk)
    have hP4 := hG3.keep hoD (fun k hk hm => by obtain rfl := List.mem_singleton.1 hm; exact slv_ne hG3 z3 (by decide) hk)
    have hR4 : RpAt _ rb ⟨r.g, r.p ++ [⟨c.run, n, bd⟩]⟩ (rb :: (Gg' ++ G3)) := ⟨_, _, Gg', G3, rfl, f3, hG4, by
      unfold SlP; rw [List.length_append, flatPr_snoc]; exact hP4⟩
    have hC4 : CAt _ cb c2 (cb :: F2) := ⟨sb, F2, rfl, by rw [eA]; exact f1, by rw [eA]; exact hS4, by rw [eA]; exact h3, by rw [eA]; exact h4⟩
    have hoE : Only ((cb :: Fs) ++ (rb :: (Gg ++ Gp))) w0 _ := (hoA.step hoC3' (fun k hk => by
      rcases List.mem_append.1 hk with h | h
      · rcases hF2 k h with h | h
        · exact .inl (by simp [h])
        · exact .inr (by omega)
      · exact .inl (List.mem_append_right _ h))).step hoD (fun k hk => .inl (by obtain rfl := List.mem_singleton.1 hk; simp))
    have hF2' : ∀ k ∈ cb :: F2, k ∈ cb :: Fs ∨ w0.heap.size ≤ k := fun k hk => by
      rcases List.mem_cons.1 hk with rfl | hk
      · simp
      · rcases hF2 k hk with h | h
        · exact .inl (by simp [h])
        · exact .inr (by omega)
    have hFr4 : ∀ k ∈ rb :: (Gg' ++ G3), k ∈ rb :: (Gg ++ Gp) ∨ w0.heap.size ≤ k := fun k hk => by
      rw [eF]
      simp only [List.mem_cons, List.mem_append] at hk ⊢
      rcases hk with rfl | hk | hk
      · simp
      · simp [hk]
      · have hzA := hoA.size
        rcases hG3n k hk with h | h
        · simp [h]
        · exact .inr (by omega)
    have hzE := hoE.size
    repeat' (first|refine vs (k:=?_)|refine qRg ?_|refine Nx.h ?_|fail)
    (with_reducible apply xs_call); exact rfl; exact rfl; exact csettle_ret cb rb c2 ⟨r.g, r.p ++ [⟨c.run, n, bd⟩]⟩ _ _ _ hC4 hR4 hg
    rintro v w6 ⟨F6, Fr6, hC6, hR6, hF6, hFr6, ho6⟩
    clear hs
    have hs := St.nil w6
    repeat' (first|refine vs (k:=?_)|refine qRg ?_|refine Nx.h ?_|fail)
    first | refine rt (hq := ?_) | refine rt' (hq := ?_)
    have ho7 := hs.only0 rfl
    refine ⟨rfl, fun _ => ⟨F6, Fr6, hC6.only ho7, by rw [eR]; exact hR6.only ho7, fun k hk => ?_, fun k hk => ?_⟩, (hoE.step ho6 (fun k hk => ?_)).step ho7 (by simp)⟩
    · rcases hF6 k hk with h | h
      · exact hF2' k h
      · exact .inr (by omega)
    · rcases hFr6 k hk with h | h
      · exact hFr4 k h
      · exact .inr (by omega)
    · rcases List.mem_append.1 hk with h | h
      · rcases hF2' k h with h | h
        · exact .inl (List.mem_append_left _ h)
        · exact .inr h
      · rcases hFr4 k h with h | h
        · exact .inl (List.mem_append_right _ h)
        · exact .inr h
  · rw [if_neg he]
    repeat' (first|refine vs (k:=?_)|refine qRg ?_|refine Nx.h ?_|(refine xc_cond rfl (fun hc=>?_) (fun hc=>?_))|fail)
    · first | refine rt (hq := ?_) | refine rt' (hq := ?_)
      have ho6 := hs.onlyF [] (by simp [y1, y2, y3]) (by simp [D0])
      exact ⟨rfl, fun h => absurd h he, hoA.step ho6 (by simp)⟩
    · exact absurd (by simpa using hc) he
end Go.Proofs.YtilajmcellffiaaGreatDoorX

namespace Go.Proofs.YtilajmcellffiaaGreatDoorX
open Go Go.RowKit
attribute [local irreducible] XS XC XA thenE blockE retE loopE loopS cutB cutN doneE SE
def tickN : Nat → Int → Cs → Rp → Int × Cs × Rp
  | 0, _, c, r => (0, c, r)
  | k + 1, left, c, r => if 0 < left ∧ c.run ≠ 0 then (if srvE c left = 0 then tickN k (left - srvN c left) (setC (srvA c left)) (srvR c left r) else (srvE c left, c, r)) else (0, c, r)
def tickC (c : Cs) (ns : Int) : Int × Cs × Rp := if 1 ≤ ns ∧ ns ≤ 1099511627776 then tickN (ns.toNat + 1) ns c .none else (2, c, .none)
theorem srv_step {c : Cs} {most : Int} (hm : U64 most) (h : srvE c most = 0) : 1 ≤ srvN c most ∧ srvN c most ≤ most := by
  obtain ⟨h1, h2⟩ := srvY_eq c most hm
  unfold srvE putE layE at h
  cases k : (srvY c most).1.right with
  | false => rw [k] at h; cases h
  | true =>
    rw [h1] at k
    cases e : srvO c most with
    | none => rw [e] at k; exact absurd k (by decide)
    | some x =>
      unfold srvO serveR at e
      split at e
      · rename_i h3
        have := h2.1
        refine ⟨by have := h3.2.1; omega, ?_⟩
        show lessN most _ ≤ most
        unfold lessN; split <;> omega
      · cases e
theorem tick_len : ∀ (k : Nat) (left : Int) (c : Cs) (r : Rp), r.p.length ≤ (tickN k left c r).2.2.p.length ∧ r.g.length ≤ (tickN k left c r).2.2.g.length
  | 0, _, _, _ => ⟨Nat.le_refl _, Nat.le_refl _⟩
  | k + 1, left, c, r => by
    unfold tickN
    split
    · split
      · have := tick_len k (left - srvN c left) (setC (srvA c left)) (srvR c left r)
        simp only [srvR, List.length_append, List.length_cons, List.length_nil] at this ⊢
        omega
      · exact ⟨Nat.le_refl _, Nat.le_refl _⟩
    · exact ⟨Nat.le_refl _, Nat.le_refl _⟩
set_option maxHeartbeats 8000000 in
theorem tick1_ret (b2 : Nat) (c : Cs) (ns : Int) (wb w0 : World) (hns : U64 ns) (B2 : w0.heap[b2]? = some (.cells #[.int .u64 ns] 22 (0, 0)))
    (hTp : (tickC c ns).2.2.p.length < 1000000) (hTg : (tickC c ns).2.2.g.length ≤ 1000000) :
    DoAt wb w0 210 [.pointer (some ⟨b2, 0, none⟩)] [] (fun _ => True) c (tickC c ns).1 (tickC c ns).2.1 (tickC c ns).2.2 := by
  intro cb rb F hC hR hFn hrb
  have hap := hR.apart hC
  have hs := (St.nil w0).trackT B2
  have eT : tickC c ns = if 1 ≤ ns ∧ ns ≤ 1099511627776 then tickN (ns.toNat + 1) ns c .none else (2, c, .none) := rfl
  generalize tickC c ns = T at *
  have bad : ∀ (w' : World), T = (2, c, .none) → Only [] w0 w' → Value.int .i64 2 = .int .i64 T.1 ∧ True ∧ (T.1 = 0 → ∃ F2 Fr, CAt w' cb T.2.1 F2 ∧ RpAt w' rb T.2.2 Fr ∧ (∀ k ∈ F2, k ∈ F ∨ w0.heap.size ≤ k) ∧ ∀ k ∈ Fr, k = rb ∨ w0.heap.size ≤ k) ∧ Only (rb :: F ++ []) w0 w' := fun w' e ho => by
    subst e; exact ⟨rfl, trivial, fun h => absurd h (show ¬ (2 : Int) = 0 by decide), ho.weaken (by simp)⟩
  refine ret_of_xc Tryz.func210 (by kernel_rfl) rfl Tryz.ntmps210 rfl rfl rfl ?_
  repeat' (first|refine Nx.h ?_|fail)
  refine xc_region ?_ ?_; exact rfl
  refine vs (k := ?_)
  repeat' (first|refine Nx.h ?_|fail)
  refine xc_region ?_ ?_; exact rfl
  refine vs (k := ?_)
  refine vs (k := ?_)
  by_cases c1 : ns < 1
  · rw [if_neg (by omega)] at eT
    rw [decide_eq_true c1]
    repeat' (first|refine vs (k:=?_)|refine ps (k:=?_)|refine qRg ?_|refine Nx.h ?_|refine qCt ?_|fail)
    first | refine rt (hq := ?_) | refine rt' (hq := ?_)
    exact bad _ eT (hs.onlyF [] (by simp [B2]) (by simp [D0]))
  rw [decide_eq_false c1]
  refine vs (k := ?_)
  refine vs (k := ?_)
  refine vs (k := ?_)
  by_cases c2 : ns > 1099511627776
  · rw [if_neg (by omega)] at eT
    rw [decide_eq_true c2]
    repeat' (first|refine vs (k:=?_)|refine qRg ?_|refine Nx.h ?_|refine qCt ?_|fail)
    first | refine rt (hq := ?_) | refine rt' (hq := ?_)
    exact bad _ eT (hs.onlyF [] (by simp [B2]) (by simp [D0]))
  rw [decide_eq_false c2]
  rw [if_pos (by omega)] at eT
  repeat' (first|refine vs (k:=?_)|refine qRg ?_|refine Nx.h ?_|refine qCf ?_|fail)
  have ho := hs.onlyF [] (by simp [B2]) (by simp [D0])
  let Inv (left : Int) (c' : Cs) (r : Rp) (F' Fr : List Nat) (w : World) : Prop := U64 left ∧ (∃ k : Nat, left < k ∧ tickN k left c' r = T) ∧ CAt w cb c' F' ∧ RpAt w rb r Fr ∧ (∀ k ∈ F', k ∈ F ∨ w0.heap.size ≤ k) ∧ (∀ k ∈ Fr, k = rb ∨ w0.heap.size ≤ k) ∧ Only (rb :: F ++ []) w0 w
  refine xc_cutB (fun (_ : Unit) => []) (fun _ w => T.1 = 0 ∧ ∃ F2 Fr, CAt w cb T.2.1 F2 ∧ RpAt w rb T.2.2 Fr ∧ (∀ k ∈ F2, k ∈ F ∨ w0.heap.size ≤ k) ∧ (∀ k ∈ Fr, k = rb ∨ w0.heap.size ≤ k) ∧ Only (rb :: F ++ []) w0 w) ?_ ?_
  · refine xc_loopS (fun (x : Int × Cs × Rp × List Nat × List Nat) => [(0, .pointer (some ⟨cb, 0, none⟩)), (1, .pointer (some ⟨rb, 0, none⟩)), (6, .int .u64 x.1)])
      (fun x w => Inv x.1 x.2.1 x.2.2.1 x.2.2.2.1 x.2.2.2.2 w) (fun x => x.1.toNat) (ns, c, .none, F, [rb]) (by (repeat (first | exact agree_nil | (apply agree_cons; exact rfl)))) ⟨hns, ⟨ns.toNat + 1, by omega, eT.symm⟩, hC.only ho, hR.only ho, fun k hk => .inl hk, fun k hk => .inl (by simpa using hk), ho.weaken (by simp)⟩ fun x env wl hI => ?_
    obtain ⟨left, c', r, F', Fr⟩ := x
    obtain ⟨hl, ⟨k, hk, hT⟩, hC1, hR1, hF1, hFr1, hoW⟩ := hI
    simp only at hl hk hT hC1 hR1 hF1 hFr1
    have hC2 := hC1
    obtain ⟨sb, Fs', rfl, q1, q2, q3, q4⟩ := hC2
    have htl := tick_len k left c' r
    rw [hT] at htl
    clear hs
    have hs := (St.nil wl).trackT q1
    cases k with
    | zero => have := hl.1; omega
    | succ k =>
    unfold tickN at hT
    repeat' (first|refine Nx.h ?_|fail)
    refine xc_region ?_ ?_; exact rfl
    refine vs (k := ?_)
    refine vs (k := ?_)
    by_cases l0 : left > 0
    · rw [decide_eq_true l0]
      by_cases hrun : c'.run = 0
      · rw [if_neg (by omega)] at hT
        subst hT
        have hs0 := hs
        rw [hrun] at hs
        repeat' (first|refine vs (k:=?_)|refine Nx.h ?_|refine qCf ?_|fail)
        have ho := hs.onlyF [] (by simp [q1, hrun]) (by simp [D0])
        exact cutB_exit () (by (repeat (first | exact agree_nil | (apply agree_cons; exact rfl)))) ⟨rfl, _, _, hC1.only ho, hR1.only ho, hF1, hFr1, hoW.step ho (by simp)⟩
      · rw [if_pos ⟨by omega, hrun⟩] at hT
        repeat' (first|refine vs (k:=?_)|refine qRg ?_|refine Nx.h ?_|(refine xc_cond rfl (fun hc=>?_) (fun hc=>?_))|fail)
        · have ho := hs.onlyF [] (by simp [q1]) (by simp [D0])
          have hz := hoW.size
          have hzo := ho.size
          (with_reducible apply xs_call); exact rfl; exact rfl; exact serve_ret cb rb c' left r _ _ _ (hC1.only ho) (hR1.only ho) hl (by omega) (by omega)
          rintro v w3 ⟨rfl, hok, ho3⟩
          have hoX : Only (rb :: F ++ []) w0 w3 := (hoW.step ho (by simp)).step ho3 (fun k hk => by
            rcases List.mem_append.1 hk with h | h
            · rcases hF1 k h with h | h
              · exact .inl (by simp [h])
              · exact .inr h
            · rcases hFr1 k h with h | h
              · exact .inl (by simp [h])
              · exact .inr h)
          clear hs
          have hs := St.nil w3
          by_cases hE : srvE c' left = 0
          · rw [if_pos hE] at hT
            obtain ⟨F2, Fr2, a1, a2, a3, a4⟩ := hok hE
            obtain ⟨s1, s2⟩ := srv_step hl hE
            have ew : IntKind.u64.wrap (left - srvN c' left) = left - srvN c' left := by rw [wrap_u64]; unfold U64 at hl; omega
            rw [hE, if_pos rfl]
            repeat' (first|refine vs (k:=?_)|refine qRg ?_|refine Nx.h ?_|refine qCf ?_|fail)
            refine loopS_next (left - srvN c' left, setC (srvA c' left), srvR c' left r, F2, Fr2) (by show (left - srvN c' left).toNat < left.toNat; omega) (by (repeat (first | exact agree_nil | (apply agree_cons; first | exact rfl | exact congrArg (Value.int .u64) ew | exact congrArg (Value.int .u64) ew)))) ⟨?_, ⟨k, ?_, hT⟩, a1.only (hs.only0 rfl), a2.only (hs.only0 rfl), fun k hk => ?_, fun k hk => ?_, hoX.step (hs.only0 rfl) (by simp)⟩
            · unfold U64 at hl ⊢; simp only; omega
            · simp only; omega
            · rcases a3 k hk with h | h
              · exact hF1 k h
              · exact .inr (by omega)
            · rcases a4 k hk with h | h
              · exact hFr1 k h
              · exact .inr (by omega)
          · rw [if_neg hE] at hT
            subst hT
            rw [if_neg hE]
            generalize srvE c' left = e at *
            repeat' (first|refine vs (k:=?_)|refine qRg ?_|refine Nx.h ?_|(refine xc_cond rfl (fun hc=>?_) (fun hc=>?_))|fail)
            · first | refine rt (hq := ?_) | refine rt' (hq := ?_)
              exact ⟨rfl, trivial, fun h => absurd h hE, hoX.step (hs.only0 rfl) (by simp)⟩
            · exact absurd (by simpa using hc) hE
        · exact absurd (by simpa using hc) hrun
    · rw [if_neg (by omega)] at hT
      subst hT
      rw [decide_eq_false l0]
      repeat' (first|refine vs (k:=?_)|refine ps (k:=?_)|refine Nx.h ?_|refine qCf ?_|fail)
      have ho := hs.onlyF [] (by simp [q1]) (by simp [D0])
      exact cutB_exit () (by (repeat (first | exact agree_nil | (apply agree_cons; exact rfl)))) ⟨rfl, _, _, hC1.only ho, hR1.only ho, hF1, hFr1, hoW.step ho (by simp)⟩
  · clear hs
    rintro _ env w ⟨hT0, F2, Fr, a1, a2, a3, a4, hoX⟩
    have hs := St.nil w
    repeat' (first|refine vs (k:=?_)|refine qRg ?_|refine Nx.h ?_|fail)
    first | refine rt (hq := ?_) | refine rt' (hq := ?_)
    exact ⟨by rw [hT0]; rfl, trivial, fun _ => ⟨F2, Fr, a1.only (hs.only0 rfl), a2.only (hs.only0 rfl), a3, a4⟩, hoX.step (hs.only0 rfl) (by simp)⟩
end Go.Proofs.YtilajmcellffiaaGreatDoorX

namespace Go.Proofs.YtilajmcellffiaaGreatDoorX
open Go Go.RowKit
attribute [local irreducible] XS XC XA thenE blockE retE loopE loopS cutB cutN doneE SE
def Told18 (w0 : World) (cb : Nat) (F : List Nat) (rv : Value) (e : Int) (c c1 : Cs) (r1 : Rp) (w' : World) : Prop :=
  RvAt w' rv (tryR e c1 r1) ∧ (∃ F', CAt w' cb (tryC c e c1) F' ∧ ∀ k ∈ F', k ∈ F ∨ w0.heap.size ≤ k) ∧ Only [cb] w0 w'
set_option maxHeartbeats 4000000 in
theorem tick_ret (cb : Nat) (c : Cs) (F : List Nat) (ns : Int) (w0 : World) (h : CAt w0 cb c F) (hns : U64 ns) (hTp : (tickC c ns).2.2.p.length < 1000000) (hTg : (tickC c ns).2.2.g.length ≤ 1000000) :
    Ret Tryz.prog 162 #[.pointer (some ⟨cb, 0, none⟩), .int .u64 ns] w0 fun v w' => ∃ rv, v = .tuple #[rv, .int .i64 (tickC c ns).1] ∧ Told18 w0 cb F rv (tickC c ns).1 c (tickC c ns).2.1 (tickC c ns).2.2 w' := by
  have hs := St.nil w0
  refine ret_of_xc Tryz.func162 (by kernel_rfl) rfl Tryz.ntmps162 rfl rfl rfl ?_
  refine xc_seq ?_
  refine xc_region ?_ ?_; exact rfl
  refine bx hs (k := ?_); intro b6 w _ hs
  refine al hs (k := ?_); intro b10 w hz hs
  repeat' (first|refine vs (k:=?_)|refine qRg ?_|refine Nx.h ?_|fail)
  have ho := hs.only0 rfl
  have hz := ho.size
  have x6 := hs.get (b := b6) (by repeat (first | exact At.head | (with_reducible apply At.tail)))
  have x10 := hs.get (b := b10) (by repeat (first | exact At.head | (with_reducible apply At.tail)))
  have hCw := h.only ho
  have hb := hs.new _ List.mem_cons_self rfl
  simp only at hb
  (with_reducible apply xs_call); exact rfl; exact rfl; exact try_ret cb c F _ hCw 210 [.pointer (some ⟨b6, 0, none⟩)] [] (fun _ => True) (tickC c ns).1 (tickC c ns).2.1 (tickC c ns).2.2 (fun _ _ _ _ _ _ => trivial) (by simp) hTg (fun w1 ho1 => tick1_ret b6 c ns _ w1 hns (ho1.block x6 (by simp)) hTp hTg)
  rintro v w2 ⟨rv, rfl, _, hRv, ⟨F', hC', hF'⟩, ho2⟩
  obtain ⟨vg, vp, Gg, Gp, rfl, p1, p2⟩ := hRv
  obtain ⟨ag, cg, rfl⟩ := slv_form p1
  obtain ⟨ap, cp, rfl⟩ := slv_form p2
  have x2 := ho2.block x10 (fun hm => by obtain rfl := List.mem_singleton.1 hm; exact hCw.not x10 rfl (by obtain ⟨_, _, rfl, _⟩ := hCw; simp))
  clear hs
  have hs := (St.nil w2).trackT x2
  repeat' (first|refine vs (k:=?_)|(refine stA hs (k:=?_);intro w hs)|refine Nx.h ?_|fail)
  first | refine rt (hq := ?_) | refine rt' (hq := ?_)
  have ho3 : Only [b10] w2 _ := hs.onlyF [b10] (by simp) (by simp [D0])
  exact ⟨_, rfl, ⟨_, _, Gg, Gp, rfl, p1.keep ho3 (fun k hk hm => by obtain rfl := List.mem_singleton.1 hm; exact slv_ne p1 x2 (by decide) hk), p2.keep ho3 (fun k hk hm => by obtain rfl := List.mem_singleton.1 hm; exact slv_ne p2 x2 (by decide) hk)⟩, ⟨F', hC'.keepD ho3 (fun k hk hm => by obtain rfl := List.mem_singleton.1 hm; exact hC'.not x2 rfl hk), fun k hk => by
    rcases hF' k hk with h | h
    · exact .inl h
    · exact .inr (by omega)⟩, ((ho.weaken (by simp)).step ho2 (fun k hk => .inl hk)).step ho3 (fun k hk => .inr (by obtain rfl := List.mem_singleton.1 hk; exact hb))⟩
end Go.Proofs.YtilajmcellffiaaGreatDoorX

namespace Go.Proofs.YtilajmcellffiaaGreatDoorX
open Go Go.RowKit
attribute [local irreducible] XS XC XA thenE blockE retE loopE loopS cutB cutN doneE SE
theorem eqPr (p q : Pr) : (cellEq (.int .i64 p.id) (.int .i64 q.id) && (cellEq (.int .u64 p.ns) (.int .u64 q.ns) && cellEq (.bool p.done) (.bool q.done))) = decide (p = q) := by
  show ((p.id == q.id) && ((p.ns == q.ns) && (p.done == q.done))) = _
  obtain ⟨a, b, c⟩ := p
  obtain ⟨a', b', c'⟩ := q
  simp only [Pr.mk.injEq]
  by_cases h1 : a = a' <;> by_cases h2 : b = b' <;> by_cases h3 : c = c' <;> simp [h1, h2, h3]
set_option maxHeartbeats 4000000 in
theorem eqP_ret (va vb : Value) (A B : List Pr) (hm : A.length ≤ 9223372036854775807) (w0 : World) (hA : LsAt w0 232 3 va (A.map Pr.cells)) (hB : LsAt w0 232 3 vb (B.map Pr.cells)) :
    Ret Tryz.prog 164 #[va, vb] w0 fun v w' => v = .bool (decide (A = B)) ∧ Only [] w0 w' := by
  obtain ⟨ada, ca, rfl, hA⟩ := hA
  obtain ⟨adb, cb, rfl, hB⟩ := hB
  rw [List.length_map] at *
  rw [List.length_map] at *
  have hs := St.nil w0
  refine ret_of_xc Tryz.func164 (by kernel_rfl) rfl Tryz.ntmps164 rfl rfl rfl ?_
  repeat' (first|refine vs (k:=?_)|refine qRg ?_|refine Nx.h ?_|(refine xc_cond rfl (fun hc=>?_) (fun hc=>?_))|fail)
  · first | refine rt (hq := ?_) | refine rt' (hq := ?_)
    refine ⟨congrArg Value.bool ?_, hs.only0 rfl⟩
    have hne : A ≠ B := fun e => by subst e; simp at hc
    exact (decide_eq_false hne).symm
  · have hln : A.length = B.length := by
      have h : ((A.length : Nat) : Int) = B.length := by simpa using hc
      omega
    refine xc_cutB (fun _ : Unit => []) (fun _ w => A = B ∧ Only [] w0 w) ?_ ?_
    · refine xc_loopS (fun (i : Nat) => [(0, .slice ada A.length ca), (1, .slice adb B.length cb), (12, .int .i64 (A.length : Nat)), (13, .int .i64 (i : Nat))])
        (fun i w => i ≤ A.length ∧ A.take i = B.take i ∧ Only [] w0 w)
        (fun i => A.length - i) 0 (by (repeat (first | exact agree_nil | (apply agree_cons; exact rfl)))) ⟨Nat.zero_le _, by simp, hs.only0 rfl⟩ fun i env w ⟨hi, ht, ho⟩ => ?_
      clear hs
      have hs := St.nil w
      repeat' (first|refine vs (k:=?_)|refine qRg ?_|refine Nx.h ?_|(refine xc_if rfl (fun hc=>?_) (fun hc=>?_))|fail)
      · have hlt : i < A.length := by omega
        have hltB : i < B.length := by omega
        obtain ⟨ba, oa, csa, fa, rfl, a2, a3, a4⟩ := hA (fun h => by have := congrArg List.length h; rw [List.length_map, List.length_nil] at this; omega)
        obtain ⟨bb, ob, csb, fb, rfl, b2, b3, b4⟩ := hB (fun h => by have := congrArg List.length h; rw [List.length_map, List.length_nil] at this; omega)
        have ga := a4 i _ (by rw [List.getElem?_map, List.getElem?_eq_getElem hlt]; rfl)
        have gb := b4 i _ (by rw [List.getElem?_map, List.getElem?_eq_getElem hltB]; rfl)
        have a3 := ho.block a3 (by simp)
        have b3 := ho.block b3 (by simp)
        have key : A[i] = B[i] → A.take (i + 1) = B.take (i + 1) := fun he => by rw [List.take_add_one, List.take_add_one, ht, List.getElem?_eq_getElem hlt, List.getElem?_eq_getElem hltB, he]
        have key2 : A[i] ≠ B[i] → A ≠ B := fun h e => h (by subst e; rfl)
        have ei := nx64 hlt hm
        generalize A[i] = x at *
        generalize B[i] = y at *
        by_cases e : ba = bb
        · subst e
          rw [a3] at b3
          cases b3
          replace hs := hs.track a3 (by simp)
          refine dr [] hs (k := ?_); intro hX w hs
          refine tk 0 hX (k := ?_)
          refine tk 1 hX (k := ?_)
          refine tk 2 hX (hr := fun w' hH => r_indexAddr tabOk rfl rfl rfl (by omega) (by omega)) (k := ?_)
          refine tk 3 hX (hr := fun w' hH => r_loadA tabOk rfl rfl (hH rfl) At.head ga) (k := ?_)
          refine tk 4 hX (k := ?_)
          refine tk 5 hX (k := ?_)
          refine tk 6 hX (hr := fun w' hH => r_indexAddr tabOk rfl rfl rfl (by omega) (by omega)) (k := ?_)
          refine tk 7 hX (hr := fun w' hH => r_loadA tabOk rfl rfl (hH rfl) At.head gb) (k := ?_)
          refine tk 8 hX (k := ?_)
          refine en (k := ?_)
          repeat' (first|refine vs (k:=?_)|refine qRg ?_|refine Nx.h ?_|(refine xc_cond rfl (fun hc=>?_) (fun hc=>?_))|fail)
          · rw [eqPr] at hc
            first | refine rt (hq := ?_) | refine rt' (hq := ?_)
            exact ⟨congrArg Value.bool (decide_eq_false (key2 (by simpa using hc))).symm, ho.step (hs.onlyF [] (by simp [a3]) (by simp [D0])) (by simp)⟩
          · rw [eqPr] at hc
            exact loopS_next (i + 1) (by omega) (by (repeat (first | exact agree_nil | (apply agree_cons; first | exact rfl | exact congrArg (Value.int .i64) ei)))) ⟨by omega, key (by simpa using hc), ho.step (hs.onlyF [] (by simp [a3]) (by simp [D0])) (by simp)⟩
        · replace hs := (hs.track a3 (by simp)).track b3 (by simpa using Ne.symm e)
          refine dr [] hs (k := ?_); intro hX w hs
          refine tk 0 hX (k := ?_)
          refine tk 1 hX (k := ?_)
          refine tk 2 hX (hr := fun w' hH => r_indexAddr tabOk rfl rfl rfl (by omega) (by omega)) (k := ?_)
          refine tk 3 hX (hr := fun w' hH => r_loadA tabOk rfl rfl (hH rfl) (At.tail At.head) ga) (k := ?_)
          refine tk 4 hX (k := ?_)
          refine tk 5 hX (k := ?_)
          refine tk 6 hX (hr := fun w' hH => r_indexAddr tabOk rfl rfl rfl (by omega) (by omega)) (k := ?_)
          refine tk 7 hX (hr := fun w' hH => r_loadA tabOk rfl rfl (hH rfl) At.head gb) (k := ?_)
          refine tk 8 hX (k := ?_)
          refine en (k := ?_)
          repeat' (first|refine vs (k:=?_)|refine qRg ?_|refine Nx.h ?_|(refine xc_cond rfl (fun hc=>?_) (fun hc=>?_))|fail)
          · rw [eqPr] at hc
            first | refine rt (hq := ?_) | refine rt' (hq := ?_)
            exact ⟨congrArg Value.bool (decide_eq_false (key2 (by simpa using hc))).symm, ho.step (hs.onlyF [] (by simp [a3, b3]) (by simp [D0])) (by simp)⟩
          · rw [eqPr] at hc
            exact loopS_next (i + 1) (by omega) (by (repeat (first | exact agree_nil | (apply agree_cons; first | exact rfl | exact congrArg (Value.int .i64) ei)))) ⟨by omega, key (by simpa using hc), ho.step (hs.onlyF [] (by simp [a3, b3]) (by simp [D0])) (by simp)⟩
      · have e : i = A.length := by omega
        have hAB : A = B := by
          have h1 : A.take i = A := List.take_of_length_le (by omega)
          have h2 : B.take i = B := List.take_of_length_le (by omega)
          rw [← h1, ht, h2]
        exact cutB_exit () (by (repeat (first | exact agree_nil | (apply agree_cons; exact rfl)))) ⟨hAB, ho.step (hs.only0 rfl) (by simp)⟩
    · rintro _ env w ⟨rfl, ho⟩
      clear hs
      have hs := St.nil w
      repeat' (first|refine vs (k:=?_)|refine qRg ?_|refine Nx.h ?_|fail)
      first | refine rt (hq := ?_) | refine rt' (hq := ?_)
      exact ⟨congrArg Value.bool (decide_eq_true rfl).symm, ho.step (hs.only0 rfl) (by simp)⟩
end Go.Proofs.YtilajmcellffiaaGreatDoorX

namespace Go.Proofs.YtilajmcellffiaaGreatDoorX
open Go Go.RowKit
open IB (IT ITsAt flatT)
attribute [local irreducible] XS XC XA thenE blockE retE loopE loopS cutB cutN doneE SE
def rk : RT := ⟨⟨⟨⟨3, 0, 1⟩, 1, ⟨5242883, 0, 1⟩⟩, 5, 5, false⟩, by decide⟩
theorem k1 : newR ⟨3, 0, 1⟩ 1 5 = some rk.1 := by kernel_rfl
theorem k2 : enterE (newS 0) rk = 0 := by kernel_rfl
theorem k3 : (enterS (newS 0) rk).l = [rk] := by kernel_rfl
theorem k4 : (rouseS (enterS (newS 0) rk) 1 true).l = [wakeR rk true] := by kernel_rfl
theorem k5 : rouseE (enterS (newS 0) rk) 1 = 0 := by kernel_rfl
set_option maxHeartbeats 4000000 in
theorem awake16_ret (w0 : World) (ht : Pows w0) : Ret Tryz.prog 12 #[] w0 fun v w' => v = .bool true ∧ Only [] w0 w' := by
  have hs := St.nil w0
  refine ret_of_xc Tryz.func12 (by kernel_rfl) rfl Tryz.ntmps12 rfl rfl rfl ?_
  repeat' (first|refine vs (k:=?_)|refine qRg ?_|refine Nx.h ?_|fail)
  (with_reducible apply xs_call); exact rfl; exact rfl; exact snew_ret 0 (by decide) _
  rintro v w1 ⟨⟨sb, F0, rfl, hS, hF0⟩, ho1⟩
  have hF0 : ∀ k ∈ F0, w0.heap.size ≤ k := fun k hk => by have := hF0 k hk; have := hs.size; omega
  have hz1 := ho1.size
  have hq := hs.call0 ho1
  have ho1' := hq.only0 rfl
  clear hs hq
  have hs := St.nil w1
  repeat' (first|refine vs (k:=?_)|refine qRg ?_|refine Nx.h ?_|fail)
  (with_reducible apply xs_call); exact rfl; exact rfl; exact runnable_ret sb (newS 0) F0 _ hS (by decide)
  rw [show runN (newS 0).l = 0 from rfl]
  rintro v w2 ⟨rfl, ho2⟩; replace hs := hs.call0 ho2
  repeat' (first|refine vs (k:=?_)|refine qRg ?_|refine Nx.h ?_|refine qCf ?_|fail)
  (with_reducible apply xs_call); exact rfl; exact rfl; exact rnew_ret ⟨3, 0, 1⟩ 1 5 (by decide) (by decide) (by decide) _
  rw [k1]
  rintro v w' ⟨rfl, ho⟩; replace hs := hs.call0 ho; repeat' (first|refine vs (k:=?_)|(refine stA hs (k:=?_);intro w hs)|(refine al hs (k:=?_);intro b w hz hs)|refine qRg ?_|refine Nx.h ?_|fail)
  have hSw := hS.only (hs.only0 rfl)
  have hzw := hs.size
  (with_reducible apply xs_call); exact rfl; exact rfl; exact enter_ret sb (newS 0) F0 rk _ hSw (by decide) (by decide) (by decide)
  rw [k2]
  rintro v w3 ⟨rfl, F1, hS3, hF1, ho3⟩
  replace hs := hs.call ho3 (hSw.apart hs rfl) (by simp [D0])
  have hF1' : ∀ k ∈ F1, w0.heap.size ≤ k := fun k hk => by
    rcases hF1 k hk with h | h
    · exact hF0 k h
    · omega
  have hm : ∀ w', Only (F0 ++ []) w1 w' → Only [] w0 w' := fun w' ho => ho1'.step ho (fun k hk => by
    rw [List.append_nil] at hk
    exact .inr (hF0 k hk))
  have hm2 : ∀ w', Only (F1 ++ (F0 ++ [])) w1 w' → Only [] w0 w' := fun w' ho => ho1'.step ho (fun k hk => by
    rw [List.append_nil, List.mem_append] at hk
    rcases hk with hk | hk
    · exact .inr (hF1' k hk)
    · exact .inr (hF0 k hk))
  have e3 := k3
  have e4 := k4
  have e5 := k5
  generalize enterS (newS 0) rk = s1 at *
  repeat' (first|refine vs (k:=?_)|refine qRg ?_|refine Nx.h ?_|fail)
  (with_reducible apply xs_call); exact rfl; exact rfl; exact Awake15_ret _ (tab_only ht (hm _ hs.only))
  rintro v w4 ⟨rfl, ho4⟩; replace hS3 := hS3.only ho4; replace hs := hs.call0 ho4
  repeat' (first|refine vs (k:=?_)|fail)
  (with_reducible apply xs_call); exact rfl; exact rfl; exact runnable_ret sb s1 F1 _ hS3 (by rw [e3]; decide)
  rw [e3, show runN [rk] = 1 from rfl]
  rintro v w5 ⟨rfl, ho5⟩; replace hS3 := hS3.only ho5; replace hs := hs.call0 ho5
  repeat' (first|refine vs (k:=?_)|fail)
  (with_reducible apply xs_call); exact rfl; exact rfl; exact rouse_ret sb s1 F1 1 true _ hS3 (by decide) (by rw [e3]; decide)
  rw [e5]
  rintro v w6 ⟨rfl, hS6, ho6⟩
  replace hs := hs.call ho6 (hS3.apart hs rfl) (by simp [D0])
  repeat' (first|refine vs (k:=?_)|fail)
  (with_reducible apply xs_call); exact rfl; exact rfl; exact runnable_ret sb (rouseS s1 1 true) F1 _ hS6 (by rw [e4]; decide)
  rw [e4, show runN [wakeR rk true] = 0 from rfl]
  rintro v w7 ⟨rfl, ho7⟩; replace hs := hs.call0 ho7
  repeat' (first|refine vs (k:=?_)|refine Nx.h ?_|fail)
  first | refine rt (hq := ?_) | refine rt' (hq := ?_)
  exact ⟨rfl, hm2 _ hs.only⟩
theorem Awake16_ret (w0 : World) (ht : Pows w0) : Ret Tryz.prog 71 #[] w0 fun v w' => v = .bool true ∧ Only [] w0 w' := by
  have hs := St.nil w0
  refine ret_of_xc Tryz.func71 (by kernel_rfl) rfl Tryz.ntmps71 rfl rfl rfl ?_
  repeat' (first|refine vs (k:=?_)|refine qRg ?_|refine Nx.h ?_|fail)
  (with_reducible apply xs_call); exact rfl; exact rfl; exact awake16_ret _ ht
  rintro v w' ⟨rfl, ho⟩; replace hs := hs.call0 ho; repeat' (first|refine vs (k:=?_)|refine Nx.h ?_|fail)
  first | refine rt (hq := ?_) | refine rt' (hq := ?_)
  exact ⟨rfl, hs.only0 rfl⟩
end Go.Proofs.YtilajmcellffiaaGreatDoorX

namespace Go.Proofs.YtilajmcellffiaaGreatDoorX
open Go Go.RowKit
open IB (IT ITsAt flatT)
attribute [local irreducible] XS XC XA thenE blockE retE loopE loopS cutB cutN doneE SE
def rs : RT := wakeR rk true
def s17 : Ss := enterS (newS 0) rs
def g17 : Gn := ⟨1, 0, rs.1⟩
theorem p1 : enterE (newS 0) rs = 0 := by kernel_rfl
theorem p2 : nextS s17 = some g17 := by kernel_rfl
theorem p3 : s17.q.f 1 = some (itR rs) := by kernel_rfl
theorem p4 : CutOk (itR rs) s17.q.t := fun _ => ⟨by kernel_rfl, by kernel_rfl⟩
theorem p5 : nextS (exitS s17 1) = none := by kernel_rfl
theorem p6 : soonId (exitS s17 1).q = 0 := by kernel_rfl
theorem f17 : Flushes s17 [g17] (exitS s17 1) := .step p2 p3 p4 (.done p5)
set_option maxHeartbeats 4000000 in
theorem awake17_ret (w0 : World) (ht : Pows w0) : Ret Tryz.prog 23 #[] w0 fun v w' => v = .bool true ∧ Only [] w0 w' := by
  have hs := St.nil w0
  refine ret_of_xc Tryz.func23 (by kernel_rfl) rfl Tryz.ntmps23 rfl rfl rfl ?_
  repeat' (first|refine vs (k:=?_)|refine qRg ?_|refine Nx.h ?_|fail)
  (with_reducible apply xs_call); exact rfl; exact rfl; exact snew_ret 0 (by decide) _
  rintro v w1 ⟨⟨sb, F0, rfl, hS, hF0⟩, ho1⟩
  have hF0 : ∀ k ∈ F0, w0.heap.size ≤ k := fun k hk => by have := hF0 k hk; have := hs.size; omega
  have hz1 := ho1.size
  have hq := hs.call0 ho1
  have ho1' := hq.only0 rfl
  clear hs hq
  have hs := St.nil w1
  repeat' (first|refine vs (k:=?_)|refine qRg ?_|refine Nx.h ?_|fail)
  (with_reducible apply xs_call); exact rfl; exact rfl; exact rnew_ret ⟨3, 0, 1⟩ 1 5 (by decide) (by decide) (by decide) _
  rw [k1]
  rintro v w' ⟨rfl, ho⟩; replace hs := hs.call0 ho; repeat' (first|refine vs (k:=?_)|(refine st hs (k:=?_);intro w hs)|(refine stA hs (k:=?_);intro w hs)|(refine al hs (k:=?_);intro b w hz hs)|refine qRg ?_|refine Nx.h ?_|fail)
  have hSw := hS.only (hs.only0 rfl)
  have hzw := hs.size
  (with_reducible apply xs_call); exact rfl; exact rfl; exact enter_ret sb (newS 0) F0 rs _ hSw (by decide) (by decide) (by decide)
  rw [p1, show enterS (newS 0) rs = s17 from rfl]
  rintro v w3 ⟨rfl, F1, hS3, hF1, ho3⟩
  replace hs := hs.call ho3 (hSw.apart hs rfl) (by simp [D0])
  have hF1' : ∀ k ∈ F1, w0.heap.size ≤ k := fun k hk => by
    rcases hF1 k hk with h | h
    · exact hF0 k h
    · omega
  have hoA : Only [] w0 w3 := ho1'.step hs.only (fun k hk => by
    have hk : k ∈ F0 ++ [] := hk
    rw [List.append_nil] at hk
    exact .inr (hF0 k hk))
  have e6 := p6
  have hf := f17
  have hn := (show s17.l.length ≤ 1000000 by decide)
  have hq := (show s17.q.t.list.length ≤ 1000000 by decide)
  generalize s17 = s at *
  generalize exitS s 1 = s' at *
  have hz3 := hoA.size
  clear hs
  have hs := St.nil w3
  repeat' (first|refine vs (k:=?_)|refine qRg ?_|refine Nx.h ?_|refine qCf ?_|fail)
  (with_reducible apply xs_call); exact rfl; exact rfl; exact settle_ret sb s s' [g17] F1 _ hS3 hn hq (by decide) hf
  rw [e6]
  rintro v w4 ⟨sl, rfl, ⟨G, hG, hGn⟩, F2, hS4, hF2, ho4⟩
  have hL := hG.ls (xs := [g17.cells]) rfl rfl (by simp)
  obtain ⟨ad, cap, rfl, hD⟩ := hL
  obtain ⟨bb, off, cs, fz, rfl, _, hbb, hcs⟩ := hD (by simp)
  have hpk := hcs 0 g17.cells rfl
  have hoB : Only [] w0 w4 := hoA.step ho4 (fun k hk => .inr (hF1' k hk))
  clear hs
  have hs := St.nil w4
  repeat' (first|refine vs (k:=?_)|refine qRg ?_|refine Nx.h ?_|fail)
  (with_reducible apply xs_call); exact rfl; exact rfl; exact Awake16_ret _ (tab_only ht hoB)
  rintro v w5 ⟨rfl, ho5⟩
  have hb5 := ho5.block hbb (by simp)
  have hoC := hoB.trans ho5
  clear hs
  have hs := St.nil w5
  repeat' (first|refine vs (k:=?_)|fail)
  refine ix (h0 := (by decide)) (h1 := (by decide)) (k := ?_)
  repeat' (first|refine vs (k:=?_)|fail)
  refine lh hb5 (by cases hpk with | cons h _ => exact h) (k := ?_)
  repeat' (first|refine vs (k:=?_)|fail)
  refine ix (h0 := (by decide)) (h1 := (by decide)) (k := ?_)
  refine vs (k := ?_)
  have hpk2 : Pick cs (off + 1) 2 [.int .i64 0, .int .u64 0] := by
    cases hpk with | cons _ h => cases h with | cons h1 h => cases h with | cons h2 _ => exact .cons h1 (.cons h2 .nil)
  refine lhK hb5 hpk2 (k := ?_)
  skip
  (with_reducible apply xs_call); exact rfl; exact rfl; exact sign_ret 0 (by decide) _
  rintro v w' ⟨rfl, ho⟩; replace hs := hs.call0 ho; repeat' (first|refine vs (k:=?_)|refine Nx.h ?_|fail)
  first | refine rt (hq := ?_) | refine rt' (hq := ?_)
  exact ⟨rfl, hoC.trans (hs.only0 rfl)⟩
end Go.Proofs.YtilajmcellffiaaGreatDoorX

namespace Go.Proofs.YtilajmcellffiaaGreatDoorX
open Go Go.RowKit
attribute [local irreducible] XS XC XA thenE blockE retE loopE loopS cutB cutN doneE SE
def c18a : Cs := tryC (newC 0) (joinC (newC 0) 1 1 2 0).1 (joinC (newC 0) 1 1 2 0).2
def c18b : Cs := tryC c18a (joinC c18a 2 1 2 0).1 (joinC c18a 2 1 2 0).2
theorem a18_1 : (joinC (newC 0) 1 1 2 0).1 = 0 := by kernel_rfl
theorem a18_2 : (joinC c18a 2 1 2 0).1 = 0 := by kernel_rfl
theorem a18_3 : (tickC c18b 4).1 = 0 := by kernel_rfl
theorem a18_4 : (tickC c18b 4).2.2.p = [⟨1, 2, true⟩, ⟨2, 2, true⟩] := by kernel_rfl
theorem a18_5 : (tickC c18b 4).2.2.g.length = 0 := by kernel_rfl
theorem AwakeL17_ret (w0 : World) (ht : Pows w0) : Ret Tryz.prog 163 #[] w0 fun v w' => v = .bool true ∧ Only [] w0 w' := by
  have hs := St.nil w0
  refine ret_of_xc Tryz.func163 (by kernel_rfl) rfl Tryz.ntmps163 rfl rfl rfl ?_
  repeat' (first|refine vs (k:=?_)|refine qRg ?_|refine Nx.h ?_|fail)
  (with_reducible apply xs_call); exact rfl; exact rfl; exact awake17_ret _ (tab_only ht (hs.only0 rfl))
  rintro v w' ⟨rfl, ho⟩; replace hs := hs.call0 ho; repeat' (first|refine vs (k:=?_)|refine Nx.h ?_|fail)
  first | refine rt (hq := ?_) | refine rt' (hq := ?_)
  exact ⟨rfl, hs.only0 rfl⟩
theorem lit_ls {w : World} {b e n k : Nat} {xs : List (List Value)} (hb : w.heap[b]? = some (.cells xs.flatten.toArray e (0, 0))) (hn : xs.length = n) (hk : ∀ x ∈ xs, x.length = k) (hl : xs.flatten.length = n * k) : LsAt w e k (.slice (some ⟨b, 0, none⟩) n n) xs :=
  SlV.ls (n := n) (G := [b]) (.inr ⟨b, n, xs.flatten, rfl, rfl, Nat.le_refl _, hl, hl, by rw [← hl]; exact List.take_length, hb⟩) rfl hn.symm hk
theorem SlP.ls {w : World} {v : Value} {l : List Pr} {G : List Nat} (h : SlP w v l G) : LsAt w 232 3 v (l.map Pr.cells) := SlV.ls h rfl (by simp) (fun x hx => by obtain ⟨p, _, rfl⟩ := List.mem_map.1 hx; rfl)
set_option maxHeartbeats 8000000 in
theorem awake18_ret (w0 : World) (ht : Pows w0) : Ret Tryz.prog 122 #[] w0 fun v w' => v = .bool true ∧ Only [] w0 w' := by
  have hs := St.nil w0
  refine ret_of_xc Tryz.func122 (by kernel_rfl) rfl Tryz.ntmps122 rfl rfl rfl ?_
  repeat' (first|refine vs (k:=?_)|refine qRg ?_|refine Nx.h ?_|fail)
  (with_reducible apply xs_call); exact rfl; exact rfl; exact cnew_ret 0 (by decide) _
  rintro v w1 ⟨⟨cb, F0, rfl, hC, hF0⟩, ho1⟩
  have hz1 := ho1.size
  have hoA := (hs.only0 rfl).trans ho1
  have hF0' : ∀ k ∈ F0, w0.heap.size ≤ k := fun k hk => by have := hF0 k hk; have := (hs.only0 rfl).size; omega
  have hcF : cb ∈ F0 := by obtain ⟨_, _, rfl, _⟩ := hC; simp
  have hcb : w0.heap.size ≤ cb := hF0' cb hcF
  clear hs
  have hs := St.nil w1
  repeat' (first|refine vs (k:=?_)|refine qRg ?_|refine Nx.h ?_|refine qCf ?_|fail)
  (with_reducible apply xs_call); exact rfl; exact rfl; exact join_ret cb (newC 0) F0 1 1 2 0 _ (hC.only (hs.only0 rfl)) (by decide) (by decide) (by decide) (by decide)
  rw [a18_1]
  rintro v w2 ⟨rv, rfl, hRv, ⟨F1, hC1, hF1⟩, ho2⟩
  have hC1 : CAt w2 cb c18a F1 := by have e := a18_1; unfold c18a; rw [e]; exact hC1
  obtain ⟨vg, vp, Gg, Gp, rfl, p1, p2⟩ := hRv
  obtain ⟨ag, cg, rfl⟩ := slv_form p1
  obtain ⟨ap, cp, rfl⟩ := slv_form p2
  have hz2 := (hs.only0 rfl).size
  have hoB : Only [] w0 w2 := (hoA.trans (hs.only0 rfl)).step ho2 (fun k hk => .inr (by obtain rfl := List.mem_singleton.1 hk; exact hcb))
  clear hs
  have hs := St.nil w2
  repeat' (first|refine vs (k:=?_)|(refine stA hs (k:=?_);intro w hs)|(refine al hs (k:=?_);intro b w hz hs)|refine qRg ?_|refine Nx.h ?_|fail)
  (with_reducible apply xs_call); exact rfl; exact rfl; exact join_ret cb c18a F1 2 1 2 0 _ (hC1.only (hs.only0 rfl)) (by decide) (by decide) (by decide) (by decide)
  rw [a18_2]
  rintro v w3 ⟨rv, rfl, hRv, ⟨F2, hC2, hF2⟩, ho3⟩
  have hC2 : CAt w3 cb c18b F2 := by have e := a18_2; unfold c18b; rw [e]; exact hC2
  obtain ⟨vg, vp, Gg, Gp, rfl, p1, p2⟩ := hRv
  obtain ⟨ag, cg, rfl⟩ := slv_form p1
  obtain ⟨ap, cp, rfl⟩ := slv_form p2
  have hz3 := (hs.only0 rfl).size
  have hoC : Only [] w0 w3 := (hoB.trans (hs.only0 rfl)).step ho3 (fun k hk => .inr (by obtain rfl := List.mem_singleton.1 hk; exact hcb))
  clear hs
  have hs := St.nil w3
  repeat' (first|refine vs (k:=?_)|(refine stA hs (k:=?_);intro w hs)|(refine al hs (k:=?_);intro b w hz hs)|refine qRg ?_|refine Nx.h ?_|fail)
  have hpl : (tickC c18b 4).2.2.p.length < 1000000 := by rw [a18_4]; decide
  have hgl : (tickC c18b 4).2.2.g.length ≤ 1000000 := by rw [a18_5]; decide
  (with_reducible apply xs_call); exact rfl; exact rfl; exact tick_ret cb c18b F2 4 _ (hC2.only (hs.only0 rfl)) (by decide) hpl hgl
  rw [a18_3]
  rintro v w4 ⟨rv, rfl, hRv, _, ho4⟩
  obtain ⟨vg, vp, Gg, Gp, rfl, p1, p2⟩ := hRv
  obtain ⟨ag, cg, rfl⟩ := slv_form p1
  have p3 : SlP w4 vp [⟨1, 2, true⟩, ⟨2, 2, true⟩] Gp := by rw [← a18_4]; exact p2
  obtain ⟨ap, cp, rfl⟩ := slv_form p3
  have hz4 := (hs.only0 rfl).size
  have hoD : Only [] w0 w4 := (hoC.trans (hs.only0 rfl)).step ho4 (fun k hk => .inr (by obtain rfl := List.mem_singleton.1 hk; exact hcb))
  clear hs
  have hs := St.nil w4
  repeat' (first|refine vs (k:=?_)|(refine stA hs (k:=?_);intro w hs)|(refine al hs (k:=?_);intro b w hz hs)|refine qRg ?_|refine Nx.h ?_|fail)
  have hoE := hoD.trans (hs.only0 rfl)
  (with_reducible apply xs_call); exact rfl; exact rfl; exact AwakeL17_ret _ (tab_only ht hoE)
  rintro v w' ⟨rfl, ho⟩; replace hs := hs.call0 ho; repeat' (first|refine vs (k:=?_)|(refine bs hs (k:=?_);intro b w hz hs)|fail)
  have hlit := lit_ls (xs := [Pr.cells ⟨1, 2, true⟩, Pr.cells ⟨2, 2, true⟩]) (k := 3) (hs.get At.head) rfl (by decide) rfl
  (with_reducible apply xs_call); exact rfl; exact rfl; exact eqP_ret _ _ [⟨1, 2, true⟩, ⟨2, 2, true⟩] [⟨1, 2, true⟩, ⟨2, 2, true⟩] (by decide) _ ((SlP.ls p3).only (hs.only0 rfl)) hlit
  rw [show decide ([(⟨1, 2, true⟩ : Pr), ⟨2, 2, true⟩] = [⟨1, 2, true⟩, ⟨2, 2, true⟩]) = true by decide]
  rintro v w' ⟨rfl, ho⟩; replace hs := hs.call0 ho; repeat' (first|refine vs (k:=?_)|refine Nx.h ?_|fail)
  first | refine rt (hq := ?_) | refine rt' (hq := ?_)
  exact ⟨rfl, hoD.trans (hs.only0 rfl)⟩
theorem Awake18_ret (w0 : World) (ht : Pows w0) : Ret Tryz.prog 78 #[] w0 fun v w' => v = .bool true ∧ Only [] w0 w' := by
  have hs := St.nil w0
  refine ret_of_xc Tryz.func78 (by kernel_rfl) rfl Tryz.ntmps78 rfl rfl rfl ?_
  repeat' (first|refine vs (k:=?_)|refine qRg ?_|refine Nx.h ?_|fail)
  (with_reducible apply xs_call); exact rfl; exact rfl; exact awake18_ret _ (tab_only ht (hs.only0 rfl))
  rintro v w' ⟨rfl, ho⟩; replace hs := hs.call0 ho; repeat' (first|refine vs (k:=?_)|refine Nx.h ?_|fail)
  first | refine rt (hq := ?_) | refine rt' (hq := ?_)
  exact ⟨rfl, hs.only0 rfl⟩
end Go.Proofs.YtilajmcellffiaaGreatDoorX

namespace Go.Proofs.YtilajmcellffiaaGreatDoorX
open Go Go.RowKit
attribute [local irreducible] XS XC XA thenE blockE retE loopE loopS cutB cutN doneE SE
end Go.Proofs.YtilajmcellffiaaGreatDoorX

namespace Go.Proofs.YtilajmcellffiaaGreatDoorX
open Go Go.RowKit
attribute [local irreducible] XS XC XA thenE blockE retE loopE loopS cutB cutN doneE SE
structure Cf where
  cores : Int
  tasks : Int
  tick : Int
  slice : Int
  origin : Int
def cfv (c : Cf) : Value := .agg #[.int .i64 c.cores, .int .i64 c.tasks, .int .u64 c.tick, .int .u64 c.slice, .int .u64 c.origin]
def Cf.In (c : Cf) : Prop := In64 c.cores ∧ In64 c.tasks ∧ U64 c.tick ∧ U64 c.slice ∧ U64 c.origin
def withinE (n e : Int) : Int := if n < 1 ∨ n > e then 3 else 0
theorem lwithin_ret (n e : Int) (w0 : World) : Ret Tryz.prog 80 #[.int .u64 n, .int .u64 e] w0 fun v w' => v = .int .i64 (withinE n e) ∧ Only [] w0 w' := by
  have hs := St.nil w0
  refine ret_of_xc Tryz.func80 (by kernel_rfl) rfl Tryz.ntmps80 rfl rfl rfl ?_
  repeat' (first|refine Nx.h ?_|fail)
  refine xc_region ?_ ?_; exact rfl
  refine vs (k := ?_)
  repeat' (first|refine Nx.h ?_|fail)
  refine xc_region ?_ ?_; exact rfl
  refine vs (k := ?_)
  refine vs (k := ?_)
  unfold withinE
  by_cases c1 : n < 1
  · rw [decide_eq_true c1, if_pos (.inl c1)]
    repeat' (first|refine vs (k:=?_)|refine ps (k:=?_)|refine qRg ?_|refine Nx.h ?_|refine qCt ?_|fail)
    first | refine rt (hq := ?_) | refine rt' (hq := ?_)
    exact ⟨rfl, hs.only0 rfl⟩
  rw [decide_eq_false c1]
  refine vs (k := ?_)
  refine vs (k := ?_)
  refine vs (k := ?_)
  refine vs (k := ?_)
  by_cases c2 : n > e
  · rw [decide_eq_true c2, if_pos (.inr c2)]
    repeat' (first|refine vs (k:=?_)|refine qRg ?_|refine Nx.h ?_|refine qCt ?_|fail)
    first | refine rt (hq := ?_) | refine rt' (hq := ?_)
    exact ⟨rfl, hs.only0 rfl⟩
  rw [decide_eq_false c2, if_neg (by omega)]
  repeat' (first|refine vs (k:=?_)|refine qRg ?_|refine Nx.h ?_|refine qCf ?_|fail)
  first | refine rt (hq := ?_) | refine rt' (hq := ?_)
  exact ⟨rfl, hs.only0 rfl⟩
def LsX (w : World) (k : Nat) (v : Value) (xs : List (List Value)) : Prop :=
  ∃ ad cap, v = .slice ad xs.length cap ∧ (xs ≠ [] → ∃ (b off : Nat) (cs : List Value) (E : TypeId) (fz : Nat × Nat), ad = some ⟨b, off, none⟩ ∧ w.heap[b]? = some (.cells cs.toArray E fz) ∧ ∀ (i : Nat) x, xs[i]? = some x → Pick cs (off + i * k) k x)
theorem LsX.only {w w' : World} {k : Nat} {v : Value} {xs : List (List Value)} (h : LsX w k v xs) (ho : Only [] w w') : LsX w' k v xs := by
  obtain ⟨ad, cap, rfl, h⟩ := h
  refine ⟨ad, cap, rfl, fun hn => ?_⟩
  obtain ⟨b, off, cs, E, fz, h1, h2, h3⟩ := h hn
  exact ⟨b, off, cs, E, fz, h1, ho.block h2 (by simp), h3⟩
theorem LsAt.x {w : World} {E k : Nat} {v : Value} {xs : List (List Value)} (h : LsAt w E k v xs) : LsX w k v xs := by
  obtain ⟨ad, cap, rfl, h⟩ := h
  refine ⟨ad, cap, rfl, fun hn => ?_⟩
  obtain ⟨b, off, cs, fz, h1, _, h2, h3⟩ := h hn
  exact ⟨b, off, cs, E, fz, h1, h2, h3⟩
def errR (e : Int) : List Value := [.int .i64 e]
def allE : List Int → Int
  | [] => 0
  | e :: l => if e ≠ 0 then e else allE l
theorem allE_drop {l : List Int} {i : Nat} (h : i < l.length) : allE (l.drop i) = if l[i] ≠ 0 then l[i] else allE (l.drop (i + 1)) := by rw [List.drop_eq_getElem_cons h]; rfl
set_option maxHeartbeats 4000000 in
theorem all_ret (l : List Int) (sl : Value) (hm : l.length ≤ 9223372036854775807) (w0 : World) (hL : LsX w0 1 sl (l.map errR)) : Ret Tryz.prog 79 #[sl] w0 fun v w' => v = .int .i64 (allE l) ∧ Only [] w0 w' := by
  obtain ⟨ad, cap, rfl, hD⟩ := hL
  rw [List.length_map] at *
  have hs := St.nil w0
  refine ret_of_xc Tryz.func79 (by kernel_rfl) rfl Tryz.ntmps79 rfl rfl rfl ?_
  repeat' (first|refine vs (k:=?_)|refine qRg ?_|refine Nx.h ?_|fail)
  refine xc_cutB (fun (_ : Unit) => []) (fun _ w => allE l = 0 ∧ Only [] w0 w) ?_ ?_
  · refine xc_loopS (fun (i : Nat) => [(5, .slice ad l.length cap), (6, .int .i64 (l.length : Nat)), (7, .int .i64 (i : Nat))]) (fun i w => i ≤ l.length ∧ allE (l.drop i) = allE l ∧ Only [] w0 w) (fun i => l.length - i) 0 (by (repeat (first | exact agree_nil | (apply agree_cons; exact rfl)))) ⟨Nat.zero_le _, by rw [List.drop_zero], hs.only0 rfl⟩ fun i env wl ⟨hi, he, ho0⟩ => ?_
    clear hs
    have hs := St.nil wl
    repeat' (first|refine vs (k:=?_)|refine qRg ?_|refine Nx.h ?_|(refine xc_if rfl (fun hc=>?_) (fun hc=>?_))|fail)
    · have hlt : i < l.length := by omega
      obtain ⟨b, off, cs, E, fz, rfl, hb, hcs⟩ := hD (fun h => by have := congrArg List.length h; rw [List.length_map, List.length_nil] at this; omega)
      have hpk := hcs i (errR l[i]) (by rw [List.getElem?_map, List.getElem?_eq_getElem hlt]; rfl)
      have ei := nx64 (m := l.length) hlt hm
      rw [allE_drop hlt] at he
      generalize l[i] = q at *
      refine ix (h0 := (by omega)) (h1 := (by omega)) (k := ?_)
      refine lh (ho0.block hb (by simp)) (by cases hpk; assumption) (k := ?_)
      by_cases hq : q = 0
      · subst hq
        rw [if_neg (by simp)] at he
        repeat' (first|refine vs (k:=?_)|refine qRg ?_|refine Nx.h ?_|refine qCf ?_|fail)
        exact loopS_next (i + 1) (by show l.length - (i + 1) < l.length - i; omega) (by (repeat (first | exact agree_nil | (apply agree_cons; first | exact rfl | exact congrArg (Value.int .i64) ei)))) ⟨by show i + 1 ≤ _; omega, he, ho0.trans (hs.only0 rfl)⟩
      · rw [if_pos hq] at he
        repeat' (first|refine vs (k:=?_)|refine qRg ?_|refine Nx.h ?_|(refine xc_cond rfl (fun hc=>?_) (fun hc=>?_))|fail)
        · first | refine rt (hq := ?_) | refine rt' (hq := ?_)
          exact ⟨by rw [← he]; rfl, ho0.trans (hs.only0 rfl)⟩
        · exact absurd (by simpa using hc) hq
    · have e : i = l.length := by omega
      subst e
      rw [List.drop_length] at he
      exact cutB_exit () (by (repeat (first | exact agree_nil | (apply agree_cons; exact rfl)))) ⟨he.symm, ho0⟩
  · rintro _ env w ⟨he, ho0⟩
    clear hs
    have hs := St.nil w
    repeat' (first|refine vs (k:=?_)|refine qRg ?_|refine Nx.h ?_|fail)
    first | refine rt (hq := ?_) | refine rt' (hq := ?_)
    exact ⟨by rw [he]; rfl, ho0.trans (hs.only0 rfl)⟩
def coreE (c : Cf) (k : Int) : Int := if k < 0 ∨ k ≥ c.cores then 5 else 0
theorem ccore_ret (c : Cf) (k : Int) (w0 : World) : Ret Tryz.prog 32 #[cfv c, .int .i64 k] w0 fun v w' => v = .int .i64 (coreE c k) ∧ Only [] w0 w' := by
  have hs := St.nil w0
  refine ret_of_xc Tryz.func32 (by kernel_rfl) rfl Tryz.ntmps32 rfl rfl rfl ?_
  repeat' (first|refine Nx.h ?_|fail)
  refine xc_region ?_ ?_; exact rfl
  refine bx hs (k := ?_); intro b w hz hs
  refine vs (k := ?_)
  repeat' (first|refine Nx.h ?_|fail)
  refine xc_region ?_ ?_; exact rfl
  refine vs (k := ?_)
  refine vs (k := ?_)
  unfold coreE
  by_cases c1 : k < 0
  · rw [decide_eq_true c1, if_pos (.inl c1)]
    repeat' (first|refine vs (k:=?_)|refine ps (k:=?_)|refine qRg ?_|refine Nx.h ?_|refine qCt ?_|fail)
    first | refine rt (hq := ?_) | refine rt' (hq := ?_)
    exact ⟨rfl, hs.only0 rfl⟩
  rw [decide_eq_false c1]
  refine vs (k := ?_)
  refine vs (k := ?_)
  refine vs (k := ?_)
  refine vs (k := ?_)
  refine vs (k := ?_)
  by_cases c2 : c.cores ≤ k
  · rw [decide_eq_true c2, if_pos (.inr c2)]
    repeat' (first|refine vs (k:=?_)|refine qRg ?_|refine Nx.h ?_|refine qCt ?_|fail)
    first | refine rt (hq := ?_) | refine rt' (hq := ?_)
    exact ⟨rfl, hs.only0 rfl⟩
  rw [decide_eq_false c2, if_neg (by omega)]
  repeat' (first|refine vs (k:=?_)|refine qRg ?_|refine Nx.h ?_|refine qCf ?_|fail)
  first | refine rt (hq := ?_) | refine rt' (hq := ?_)
  exact ⟨rfl, hs.only0 rfl⟩
def checkF (c : Cf) : Int := if c.cores < 1 ∨ c.tasks < 1 then 3 else allE [withinE c.cores 8, withinE c.tasks 32, withinE c.tick 1099511627776, withinE c.slice 1099511627776]
set_option maxHeartbeats 4000000 in
theorem check_ret (c : Cf) (hc0 : c.In) (w0 : World) : Ret Tryz.prog 30 #[cfv c] w0 fun v w' => v = .int .i64 (checkF c) ∧ Only [] w0 w' := by
  obtain ⟨i1, i2, i3, i4, i5⟩ := hc0
  unfold In64 at i1 i2
  have hs := St.nil w0
  refine ret_of_xc Tryz.func30 (by kernel_rfl) rfl Tryz.ntmps30 rfl rfl rfl ?_
  repeat' (first|refine Nx.h ?_|fail)
  refine xc_region ?_ ?_; exact rfl
  refine bx hs (k := ?_); intro b w hz hs
  refine vs (k := ?_)
  repeat' (first|refine Nx.h ?_|fail)
  refine xc_region ?_ ?_; exact rfl
  refine vs (k := ?_)
  refine vs (k := ?_)
  refine vs (k := ?_)
  unfold checkF
  by_cases c1 : c.cores < 1
  · rw [decide_eq_true c1, if_pos (.inl c1)]
    repeat' (first|refine vs (k:=?_)|refine ps (k:=?_)|refine qRg ?_|refine Nx.h ?_|refine qCt ?_|fail)
    first | refine rt (hq := ?_) | refine rt' (hq := ?_)
    exact ⟨rfl, hs.only0 rfl⟩
  rw [decide_eq_false c1]
  refine vs (k := ?_)
  refine vs (k := ?_)
  refine vs (k := ?_)
  refine vs (k := ?_)
  by_cases c2 : c.tasks < 1
  · rw [decide_eq_true c2, if_pos (.inr c2)]
    repeat' (first|refine vs (k:=?_)|refine qRg ?_|refine Nx.h ?_|refine qCt ?_|fail)
    first | refine rt (hq := ?_) | refine rt' (hq := ?_)
    exact ⟨rfl, hs.only0 rfl⟩
  rw [decide_eq_false c2, if_neg (by omega)]
  repeat' (first|refine vs (k:=?_)|refine Nx.h ?_|refine qCf ?_|fail)
  have e1 : IntKind.u64.wrap c.cores = c.cores := by rw [wrap_u64]; omega
  have e2 : IntKind.u64.wrap c.tasks = c.tasks := by rw [wrap_u64]; omega
  refine dr [] hs (k := ?_); intro hX w hs
  refine tk 0 hX (k := ?_)
  refine tk 1 hX (k := ?_)
  refine tk 2 hX (k := ?_)
  refine tk 4 hX (k := ?_)
  refine tk 5 hX (k := ?_)
  refine tk 6 hX (k := ?_)
  refine tk 8 hX (k := ?_)
  refine tk 9 hX (k := ?_)
  refine tk 11 hX (k := ?_)
  refine tk 12 hX (k := ?_)
  refine dt 3 hX (k := ?_)
  (with_reducible apply xs_call); exact rfl; exact rfl; exact lwithin_ret (IntKind.u64.wrap c.cores) 8 _
  rw [e1]
  rintro v w' ⟨rfl, ho⟩; replace hs := hs.call0 ho; repeat' (first|refine Nx.h ?_|fail)
  refine dn (k := ?_)
  refine dt 7 hX (k := ?_)
  (with_reducible apply xs_call); exact rfl; exact rfl; exact lwithin_ret (IntKind.u64.wrap c.tasks) 32 _
  rw [e2]
  rintro v w' ⟨rfl, ho⟩; replace hs := hs.call0 ho; repeat' (first|refine Nx.h ?_|fail)
  refine dn (k := ?_)
  refine dt 10 hX (k := ?_)
  (with_reducible apply xs_call); exact rfl; exact rfl; exact lwithin_ret c.tick 1099511627776 _
  rintro v w' ⟨rfl, ho⟩; replace hs := hs.call0 ho; repeat' (first|refine Nx.h ?_|fail)
  refine dn (k := ?_)
  refine dt 13 hX (k := ?_)
  (with_reducible apply xs_call); exact rfl; exact rfl; exact lwithin_ret c.slice 1099511627776 _
  rintro v w' ⟨rfl, ho⟩; replace hs := hs.call0 ho; repeat' (first|refine Nx.h ?_|fail)
  refine dn (k := ?_)
  refine dt 14 hX (k := ?_)
  repeat' (first|(refine bs hs (k:=?_);intro b w hz hs)|refine Nx.h ?_|fail)
  refine dn (k := ?_)
  refine dt 15 hX (k := ?_)
  (with_reducible apply xs_call); exact rfl; exact rfl; exact all_ret [withinE c.cores 8, withinE c.tasks 32, withinE c.tick 1099511627776, withinE c.slice 1099511627776] _ (by simp) _ (lit_ls (n := 4) (hs.get At.head) rfl (fun x hx => by obtain ⟨e, _, rfl⟩ := List.mem_map.1 hx; rfl) rfl).x
  rintro v w' ⟨rfl, ho⟩; replace hs := hs.call0 ho; repeat' (first|refine Nx.h ?_|fail)
  refine dn (k := ?_)
  refine tk 16 hX (k := ?_)
  refine en (k := ?_)
  repeat' (first|refine Nx.h ?_|fail)
  first | refine rt (hq := ?_) | refine rt' (hq := ?_)
  exact ⟨rfl, hs.only0 rfl⟩
end Go.Proofs.YtilajmcellffiaaGreatDoorX

namespace Go.Proofs.YtilajmcellffiaaGreatDoorX
open Go Go.RowKit
attribute [local irreducible] XS XC XA thenE blockE retE loopE loopS cutB cutN doneE SE
set_option maxHeartbeats 4000000 in
theorem awake19_ret (w0 : World) (ht : Pows w0) : Ret Tryz.prog 29 #[] w0 fun v w' => v = .bool true ∧ Only [] w0 w' := by
  have hs := St.nil w0
  refine ret_of_xc Tryz.func29 (by kernel_rfl) rfl Tryz.ntmps29 rfl rfl rfl ?_
  repeat' (first|refine vs (k:=?_)|(refine stA hs (k:=?_);intro w hs)|(refine al hs (k:=?_);intro b w hz hs)|refine qRg ?_|refine Nx.h ?_|fail)
  (with_reducible apply xs_call); exact rfl; exact rfl; exact Awake18_ret _ (tab_only ht (hs.only0 rfl))
  rintro v w' ⟨rfl, ho⟩; replace hs := hs.call0 ho; repeat' (first|refine vs (k:=?_)|fail)
  (with_reducible apply xs_call); exact rfl; exact rfl; exact check_ret ⟨2, 3, 4, 5, 0⟩ (by unfold Cf.In; decide) _
  rw [show checkF ⟨2, 3, 4, 5, 0⟩ = 0 by decide]
  rintro v w' ⟨rfl, ho⟩; replace hs := hs.call0 ho; repeat' (first|refine vs (k:=?_)|fail)
  (with_reducible apply xs_call); exact rfl; exact rfl; exact ccore_ret ⟨2, 3, 4, 5, 0⟩ 2 _
  rw [show coreE ⟨2, 3, 4, 5, 0⟩ 2 = 5 by decide]
  rintro v w' ⟨rfl, ho⟩; replace hs := hs.call0 ho; repeat' (first|refine vs (k:=?_)|fail)
  (with_reducible apply xs_call); exact rfl; exact rfl; exact ccore_ret ⟨2, 3, 4, 5, 0⟩ 1 _
  rw [show coreE ⟨2, 3, 4, 5, 0⟩ 1 = 0 by decide]
  rintro v w' ⟨rfl, ho⟩; replace hs := hs.call0 ho; repeat' (first|refine vs (k:=?_)|refine Nx.h ?_|fail)
  first | refine rt (hq := ?_) | refine rt' (hq := ?_)
  exact ⟨rfl, hs.only0 rfl⟩
theorem Awake19_ret (w0 : World) (ht : Pows w0) : Ret Tryz.prog 89 #[] w0 fun v w' => v = .bool true ∧ Only [] w0 w' := by
  have hs := St.nil w0
  refine ret_of_xc Tryz.func89 (by kernel_rfl) rfl Tryz.ntmps89 rfl rfl rfl ?_
  repeat' (first|refine vs (k:=?_)|refine qRg ?_|refine Nx.h ?_|fail)
  (with_reducible apply xs_call); exact rfl; exact rfl; exact awake19_ret _ (tab_only ht (hs.only0 rfl))
  rintro v w' ⟨rfl, ho⟩; replace hs := hs.call0 ho; repeat' (first|refine vs (k:=?_)|refine Nx.h ?_|fail)
  first | refine rt (hq := ?_) | refine rt' (hq := ?_)
  exact ⟨rfl, hs.only0 rfl⟩
end Go.Proofs.YtilajmcellffiaaGreatDoorX

namespace Go.Proofs.YtilajmcellffiaaGreatDoorX
open Go Go.RowKit Go.ChangeShapes Go.WideShapes Go.ChangeAt
theorem own : ownKnob Tryz.prog.godebug = none := by kernel_rfl
theorem laidOut : laidOutB Tryz.prog = true := by kernel_rfl
theorem int_of {k : IntKind} {a : Int} (h : (Lit.int k a).wf = true) : k.min ≤ a ∧ a ≤ k.max := by simpa [Lit.wf] using h
end Go.Proofs.YtilajmcellffiaaGreatDoorX

namespace Go.Proofs.YtilajmcellffiaaGreatDoor
open Go
theorem pf_laid : laidOutB Tryz.prog = true := by kernel_rfl
theorem pf_maps : mapsRowed Tryz.prog = true := by kernel_rfl
theorem pf_keys : (true == Tryz.prog.plainKeys) = true := by kernel_rfl
theorem pf_heard : Tryz.prog.stopsHeard = true := by kernel_rfl
theorem pf_enter : Tryz.prog.mayEnter = true := by kernel_rfl
theorem pf_lift : (false == Tryz.prog.liftsFinal) = true := by kernel_rfl
theorem pf_make : (Tryz.prog.make == some .cut) = true := by kernel_rfl
theorem and_mk {a b : Bool} (h : a = true) (k : b = true) : (a && b) = true := by rw [h, k]; rfl
end Go.Proofs.YtilajmcellffiaaGreatDoor

namespace Go.Proofs.YtilajmcellffiaaGreatDoorX
open Go
theorem door_met (os : Os) (args : Array Value) : laidMetH Tryz.prog [("math/bits.deBruijn32tab", YtilajmcellffiaaGreatDoor.Rows.laid_math_bits_deBruijn32tab), ("math/bits.deBruijn64tab", YtilajmcellffiaaGreatDoor.Rows.laid_math_bits_deBruijn64tab), ("internal/strconv.uint64pow10", YtilajmcellffiaaGreatDoor.Rows.laid_internal_strconv_uint64pow10)] ((World.doorLaid Tryz.prog 24 os).forCall (fun _ _ => 0) ⟨#[], args, []⟩).memory :=
  laidMetH_of_parts3 (fuel := 8) (laidMet_of_run' 8 (by kernel_rfl) (by kernel_rfl)) (by kernel_rfl) (by kernel_rfl)
theorem pows_of {W : World} (h : laidMetH Tryz.prog [("math/bits.deBruijn32tab", YtilajmcellffiaaGreatDoor.Rows.laid_math_bits_deBruijn32tab), ("math/bits.deBruijn64tab", YtilajmcellffiaaGreatDoor.Rows.laid_math_bits_deBruijn64tab), ("internal/strconv.uint64pow10", YtilajmcellffiaaGreatDoor.Rows.laid_internal_strconv_uint64pow10)] W) : Pows W := by
  rw [MakeChecks.laidMetH_plain _ _ _ (by kernel_rfl)] at h
  have h2 := h.tail.tail
  exact Lib.tabIs_of_head (g := (Tryz.prog.globalNamed "internal/strconv.uint64pow10").getD 0) (t := 314) (e := 22) (n := 20) (by kernel_rfl) (by kernel_rfl) (by kernel_rfl) (by kernel_rfl) (by kernel_rfl) (by kernel_rfl) h2
end Go.Proofs.YtilajmcellffiaaGreatDoorX
