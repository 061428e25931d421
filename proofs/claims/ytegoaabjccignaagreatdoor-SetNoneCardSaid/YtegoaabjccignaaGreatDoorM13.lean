/- Proved: a nil set and a zero request are told; no arguments -/
import Derived.Test.YtegoaabjccignaaGreatDoorM12
import Derived.Test.YtegoaabjccignaaGreatDoorTie
import Derived.Lib.LaidTab
import Derived.Stop.LaidErr
import Derived.MakeChecks
import Derived.LaidMore
import Derived.LaidLaws
import Derived.Test.YtegoaabjccignaaGreatDoorCards
import Derived.SevenTiedAt
set_option linter.unusedVariables false
set_option linter.unusedSimpArgs false
set_option maxRecDepth 100000
namespace Go.Proofs.YtegoaabjccignaaGreatDoorX
open Go Go.RowKit
open IB (IT ITsAt flatT)
attribute [local irreducible] XS XC XA thenE blockE retE loopE loopS cutB cutN doneE SE
def rk : RT := ⟨⟨⟨⟨3, 0, 1⟩, 1, ⟨5242883, 0, 1⟩⟩, 5, 5, false⟩, by decide⟩
theorem k1 : newR ⟨3, 0, 1⟩ 1 5 = some rk.1 := by kernel_rfl
theorem k2 : enterE (newS 0) rk = 0 := by kernel_rfl
theorem k3 : (enterS (newS 0) rk).l = [rk] := by kernel_rfl
theorem k4 : (rouseS (enterS (newS 0) rk) 1 true).l = [wakeR rk true] := by kernel_rfl
theorem k5 : rouseE (enterS (newS 0) rk) 1 = 0 := by kernel_rfl
set_option maxHeartbeats 4000000 in
theorem awake16_ret (w0 : World) (ht : Pows w0) : Ret Tryz.prog 11 #[] w0 fun v w' => v = .bool true ∧ Only [] w0 w' := by
  have hs := St.nil w0
  refine ret_of_xc Tryz.func11 (by kernel_rfl) rfl Tryz.ntmps11 rfl rfl rfl ?_
  repeat' (first|refine vs (k:=?_)|refine ps (k:=?_)|((first|refine st hs (k:=?_)|refine stA hs (k:=?_));intro w hs)|((first|refine al hs (k:=?_)|refine bx hs (k:=?_)|refine bs hs (k:=?_));intro b w hz hs)|refine qRg ?_|refine Nx.h ?_|refine qBo ?_|refine qCt ?_|refine qCf ?_|((with_reducible apply xs_guard);exact rfl;exact rfl;intro c hc;(fail_if_success have:true=c:=hc);(fail_if_success have:false=c:=hc);cases c)|(refine xc_if rfl (fun hc=>?_) (fun hc=>?_))|(refine xc_cond rfl (fun hc=>?_) (fun hc=>?_)))
  (with_reducible apply xs_call); exact rfl; exact rfl; exact snew_ret 0 (by decide) _
  rintro v w1 ⟨⟨sb, F0, rfl, hS, hF0⟩, ho1⟩
  have hF0 : ∀ k ∈ F0, w0.heap.size ≤ k := fun k hk => by have := hF0 k hk; have := hs.size; omega
  have hz1 := ho1.size
  have hq := hs.call0 ho1
  have ho1' := hq.only0 rfl
  clear hs hq
  have hs := St.nil w1
  repeat' (first|refine vs (k:=?_)|refine ps (k:=?_)|((first|refine st hs (k:=?_)|refine stA hs (k:=?_));intro w hs)|((first|refine al hs (k:=?_)|refine bx hs (k:=?_)|refine bs hs (k:=?_));intro b w hz hs)|refine qRg ?_|refine Nx.h ?_|refine qBo ?_|refine qCt ?_|refine qCf ?_|((with_reducible apply xs_guard);exact rfl;exact rfl;intro c hc;(fail_if_success have:true=c:=hc);(fail_if_success have:false=c:=hc);cases c)|(refine xc_if rfl (fun hc=>?_) (fun hc=>?_))|(refine xc_cond rfl (fun hc=>?_) (fun hc=>?_)))
  (with_reducible apply xs_call); exact rfl; exact rfl; exact runnable_ret sb (newS 0) F0 _ hS (by decide)
  rw [show runN (newS 0).l = 0 from rfl]
  rintro v w2 ⟨rfl, ho2⟩; replace hs := hs.call0 ho2
  repeat' (first|refine vs (k:=?_)|refine ps (k:=?_)|((first|refine st hs (k:=?_)|refine stA hs (k:=?_));intro w hs)|((first|refine al hs (k:=?_)|refine bx hs (k:=?_)|refine bs hs (k:=?_));intro b w hz hs)|refine qRg ?_|refine Nx.h ?_|refine qBo ?_|refine qCt ?_|refine qCf ?_|((with_reducible apply xs_guard);exact rfl;exact rfl;intro c hc;(fail_if_success have:true=c:=hc);(fail_if_success have:false=c:=hc);cases c)|(refine xc_if rfl (fun hc=>?_) (fun hc=>?_))|(refine xc_cond rfl (fun hc=>?_) (fun hc=>?_)))
  (with_reducible apply xs_call); exact rfl; exact rfl; exact rnew_ret ⟨3, 0, 1⟩ 1 5 (by decide) (by decide) (by decide) _
  rw [k1]
  rintro v w' ⟨rfl, ho⟩; replace hs := hs.call0 ho; repeat' (first|refine vs (k:=?_)|refine ps (k:=?_)|((first|refine st hs (k:=?_)|refine stA hs (k:=?_));intro w hs)|((first|refine al hs (k:=?_)|refine bx hs (k:=?_)|refine bs hs (k:=?_));intro b w hz hs)|refine qRg ?_|refine Nx.h ?_|refine qBo ?_|refine qCt ?_|refine qCf ?_|((with_reducible apply xs_guard);exact rfl;exact rfl;intro c hc;(fail_if_success have:true=c:=hc);(fail_if_success have:false=c:=hc);cases c)|(refine xc_if rfl (fun hc=>?_) (fun hc=>?_))|(refine xc_cond rfl (fun hc=>?_) (fun hc=>?_)))
  have hSw := hS.only (hs.only0 rfl)
  have hzw := hs.size
  (with_reducible apply xs_call); exact rfl; exact rfl; exact enter_ret sb (newS 0) F0 rk _ hSw (by decide) (by decide) (by decide)
  rw [k2]
  rintro v w3 ⟨rfl, F1, hS3, hF1, ho3⟩
  replace hs := hs.call ho3 (hSw.apart hs rfl) (by simp [D0])
  have hF1' : ∀ k ∈ F1, w0.heap.size ≤ k := fun k hk => by
    rcases hF1 k hk with h | h
    · exact hF0 k h
    · omega
  have hm : ∀ w', Only (F0 ++ []) w1 w' → Only [] w0 w' := fun w' ho => ho1'.step ho (fun k hk => by
    rw [List.append_nil] at hk
    exact .inr (hF0 k hk))
  have hm2 : ∀ w', Only (F1 ++ (F0 ++ [])) w1 w' → Only [] w0 w' := fun w' ho => ho1'.step ho (fun k hk => by
    rw [List.append_nil, List.mem_append] at hk
    rcases hk with hk | hk
    · exact .inr (hF1' k hk)
    · exact .inr (hF0 k hk))
  have e3 := k3
  have e4 := k4
  have e5 := k5
  generalize enterS (newS 0) rk = s1 at *
  repeat' (first|refine vs (k:=?_)|refine ps (k:=?_)|((first|refine st hs (k:=?_)|refine stA hs (k:=?_));intro w hs)|((first|refine al hs (k:=?_)|refine bx hs (k:=?_)|refine bs hs (k:=?_));intro b w hz hs)|refine qRg ?_|refine Nx.h ?_|refine qBo ?_|refine qCt ?_|refine qCf ?_|((with_reducible apply xs_guard);exact rfl;exact rfl;intro c hc;(fail_if_success have:true=c:=hc);(fail_if_success have:false=c:=hc);cases c)|(refine xc_if rfl (fun hc=>?_) (fun hc=>?_))|(refine xc_cond rfl (fun hc=>?_) (fun hc=>?_)))
  (with_reducible apply xs_call); exact rfl; exact rfl; exact Awake15_ret _ (tab_only ht (hm _ hs.only))
  rintro v w4 ⟨rfl, ho4⟩; replace hS3 := hS3.only ho4; replace hs := hs.call0 ho4
  repeat' (first|refine vs (k:=?_)|refine ps (k:=?_)|((first|refine st hs (k:=?_)|refine stA hs (k:=?_));intro w hs)|((first|refine al hs (k:=?_)|refine bx hs (k:=?_)|refine bs hs (k:=?_));intro b w hz hs)|refine qRg ?_|refine Nx.h ?_|refine qBo ?_|refine qCt ?_|refine qCf ?_|((with_reducible apply xs_guard);exact rfl;exact rfl;intro c hc;(fail_if_success have:true=c:=hc);(fail_if_success have:false=c:=hc);cases c)|(refine xc_if rfl (fun hc=>?_) (fun hc=>?_))|(refine xc_cond rfl (fun hc=>?_) (fun hc=>?_)))
  (with_reducible apply xs_call); exact rfl; exact rfl; exact runnable_ret sb s1 F1 _ hS3 (by rw [e3]; decide)
  rw [e3, show runN [rk] = 1 from rfl]
  rintro v w5 ⟨rfl, ho5⟩; replace hS3 := hS3.only ho5; replace hs := hs.call0 ho5
  repeat' (first|refine vs (k:=?_)|refine ps (k:=?_)|((first|refine st hs (k:=?_)|refine stA hs (k:=?_));intro w hs)|((first|refine al hs (k:=?_)|refine bx hs (k:=?_)|refine bs hs (k:=?_));intro b w hz hs)|refine qRg ?_|refine Nx.h ?_|refine qBo ?_|refine qCt ?_|refine qCf ?_|((with_reducible apply xs_guard);exact rfl;exact rfl;intro c hc;(fail_if_success have:true=c:=hc);(fail_if_success have:false=c:=hc);cases c)|(refine xc_if rfl (fun hc=>?_) (fun hc=>?_))|(refine xc_cond rfl (fun hc=>?_) (fun hc=>?_)))
  (with_reducible apply xs_call); exact rfl; exact rfl; exact rouse_ret sb s1 F1 1 true _ hS3 (by decide) (by rw [e3]; decide)
  rw [e5]
  rintro v w6 ⟨rfl, hS6, ho6⟩
  replace hs := hs.call ho6 (hS3.apart hs rfl) (by simp [D0])
  repeat' (first|refine vs (k:=?_)|refine ps (k:=?_)|((first|refine st hs (k:=?_)|refine stA hs (k:=?_));intro w hs)|((first|refine al hs (k:=?_)|refine bx hs (k:=?_)|refine bs hs (k:=?_));intro b w hz hs)|refine qRg ?_|refine Nx.h ?_|refine qBo ?_|refine qCt ?_|refine qCf ?_|((with_reducible apply xs_guard);exact rfl;exact rfl;intro c hc;(fail_if_success have:true=c:=hc);(fail_if_success have:false=c:=hc);cases c)|(refine xc_if rfl (fun hc=>?_) (fun hc=>?_))|(refine xc_cond rfl (fun hc=>?_) (fun hc=>?_)))
  (with_reducible apply xs_call); exact rfl; exact rfl; exact runnable_ret sb (rouseS s1 1 true) F1 _ hS6 (by rw [e4]; decide)
  rw [e4, show runN [wakeR rk true] = 0 from rfl]
  rintro v w7 ⟨rfl, ho7⟩; replace hs := hs.call0 ho7
  repeat' (first|refine vs (k:=?_)|refine ps (k:=?_)|((first|refine st hs (k:=?_)|refine stA hs (k:=?_));intro w hs)|((first|refine al hs (k:=?_)|refine bx hs (k:=?_)|refine bs hs (k:=?_));intro b w hz hs)|refine qRg ?_|refine Nx.h ?_|refine qBo ?_|refine qCt ?_|refine qCf ?_|((with_reducible apply xs_guard);exact rfl;exact rfl;intro c hc;(fail_if_success have:true=c:=hc);(fail_if_success have:false=c:=hc);cases c)|(refine xc_if rfl (fun hc=>?_) (fun hc=>?_))|(refine xc_cond rfl (fun hc=>?_) (fun hc=>?_)))
  first | refine rt (hq := ?_) | refine rt' (hq := ?_)
  exact ⟨rfl, hm2 _ hs.only⟩
theorem Awake16_ret (w0 : World) (ht : Pows w0) : Ret Tryz.prog 21 #[] w0 fun v w' => v = .bool true ∧ Only [] w0 w' := by
  have hs := St.nil w0
  refine ret_of_xc Tryz.func21 (by kernel_rfl) rfl Tryz.ntmps21 rfl rfl rfl ?_
  repeat' (first|refine vs (k:=?_)|refine ps (k:=?_)|((first|refine st hs (k:=?_)|refine stA hs (k:=?_));intro w hs)|((first|refine al hs (k:=?_)|refine bx hs (k:=?_)|refine bs hs (k:=?_));intro b w hz hs)|refine qRg ?_|refine Nx.h ?_|refine qBo ?_|refine qCt ?_|refine qCf ?_|((with_reducible apply xs_guard);exact rfl;exact rfl;intro c hc;(fail_if_success have:true=c:=hc);(fail_if_success have:false=c:=hc);cases c)|(refine xc_if rfl (fun hc=>?_) (fun hc=>?_))|(refine xc_cond rfl (fun hc=>?_) (fun hc=>?_)))
  (with_reducible apply xs_call); exact rfl; exact rfl; exact awake16_ret _ ht
  rintro v w' ⟨rfl, ho⟩; replace hs := hs.call0 ho; repeat' (first|refine vs (k:=?_)|refine ps (k:=?_)|((first|refine st hs (k:=?_)|refine stA hs (k:=?_));intro w hs)|((first|refine al hs (k:=?_)|refine bx hs (k:=?_)|refine bs hs (k:=?_));intro b w hz hs)|refine qRg ?_|refine Nx.h ?_|refine qBo ?_|refine qCt ?_|refine qCf ?_|((with_reducible apply xs_guard);exact rfl;exact rfl;intro c hc;(fail_if_success have:true=c:=hc);(fail_if_success have:false=c:=hc);cases c)|(refine xc_if rfl (fun hc=>?_) (fun hc=>?_))|(refine xc_cond rfl (fun hc=>?_) (fun hc=>?_)))
  first | refine rt (hq := ?_) | refine rt' (hq := ?_)
  exact ⟨rfl, hs.only0 rfl⟩
end Go.Proofs.YtegoaabjccignaaGreatDoorX

namespace Go.Proofs.YtegoaabjccignaaGreatDoorX
open Go Go.RowKit
open IB (IT ITsAt flatT)
attribute [local irreducible] XS XC XA thenE blockE retE loopE loopS cutB cutN doneE SE
theorem qnow_of {w : World} {qb : Nat} {s : Qs} {F : List Nat} (h : QAt w qb s F) : True := trivial
def rz : RT := ⟨.zero, by decide⟩
theorem m1 : enterE (newS 5) rz = 2 := by kernel_rfl
theorem m2 : enterS (newS 5) rz = newS 5 := rfl
theorem m3 : rz.1.right = false := by kernel_rfl
set_option maxHeartbeats 4000000 in
theorem setNone_ret (w0 : World) (ht : Pows w0) : Ret Tryz.prog 4 #[] w0 fun v w' => v = .bool true ∧ Only [] w0 w' := by
  have hs := St.nil w0
  refine ret_of_xc Tryz.func4 (by kernel_rfl) rfl Tryz.ntmps4 rfl rfl rfl ?_
  repeat' (first|refine vs (k:=?_)|refine ps (k:=?_)|((first|refine st hs (k:=?_)|refine stA hs (k:=?_));intro w hs)|((first|refine al hs (k:=?_)|refine bx hs (k:=?_)|refine bs hs (k:=?_));intro b w hz hs)|refine qRg ?_|refine Nx.h ?_|refine qBo ?_|refine qCt ?_|refine qCf ?_|((with_reducible apply xs_guard);exact rfl;exact rfl;intro c hc;(fail_if_success have:true=c:=hc);(fail_if_success have:false=c:=hc);cases c)|(refine xc_if rfl (fun hc=>?_) (fun hc=>?_))|(refine xc_cond rfl (fun hc=>?_) (fun hc=>?_)))
  (with_reducible apply xs_call); exact rfl; exact rfl; exact exit_nil 1 _
  rintro v w' ⟨rfl, ho⟩; replace hs := hs.call0 ho; repeat' (first|refine vs (k:=?_)|refine ps (k:=?_)|((first|refine st hs (k:=?_)|refine stA hs (k:=?_));intro w hs)|((first|refine al hs (k:=?_)|refine bx hs (k:=?_)|refine bs hs (k:=?_));intro b w hz hs)|refine qRg ?_|refine Nx.h ?_|refine qBo ?_|refine qCt ?_|refine qCf ?_|((with_reducible apply xs_guard);exact rfl;exact rfl;intro c hc;(fail_if_success have:true=c:=hc);(fail_if_success have:false=c:=hc);cases c)|(refine xc_if rfl (fun hc=>?_) (fun hc=>?_))|(refine xc_cond rfl (fun hc=>?_) (fun hc=>?_)))
  (with_reducible apply xs_call); exact rfl; exact rfl; exact req_nil 1 _
  rintro v w' ⟨rfl, ho⟩; replace hs := hs.call0 ho; repeat' (first|refine vs (k:=?_)|refine ps (k:=?_)|((first|refine st hs (k:=?_)|refine stA hs (k:=?_));intro w hs)|((first|refine al hs (k:=?_)|refine bx hs (k:=?_)|refine bs hs (k:=?_));intro b w hz hs)|refine qRg ?_|refine Nx.h ?_|refine qBo ?_|refine qCt ?_|refine qCf ?_|((with_reducible apply xs_guard);exact rfl;exact rfl;intro c hc;(fail_if_success have:true=c:=hc);(fail_if_success have:false=c:=hc);cases c)|(refine xc_if rfl (fun hc=>?_) (fun hc=>?_))|(refine xc_cond rfl (fun hc=>?_) (fun hc=>?_)))
  have hzA := hs.size
  have hoA := hs.only0 rfl
  (with_reducible apply xs_call); exact rfl; exact rfl; exact snew_ret 5 (by decide) _
  rintro v w1 ⟨⟨sb, F0, rfl, hS, hF0⟩, ho1⟩
  have hF0 : ∀ k ∈ F0, w0.heap.size ≤ k := fun k hk => by have := hF0 k hk; omega
  replace hs := hs.call0 ho1
  have ho1' := hs.only0 rfl
  clear hs
  have hs := St.nil w1
  repeat' (first|refine vs (k:=?_)|refine ps (k:=?_)|((first|refine st hs (k:=?_)|refine stA hs (k:=?_));intro w hs)|((first|refine al hs (k:=?_)|refine bx hs (k:=?_)|refine bs hs (k:=?_));intro b w hz hs)|refine qRg ?_|refine Nx.h ?_|refine qBo ?_|refine qCt ?_|refine qCf ?_|((with_reducible apply xs_guard);exact rfl;exact rfl;intro c hc;(fail_if_success have:true=c:=hc);(fail_if_success have:false=c:=hc);cases c)|(refine xc_if rfl (fun hc=>?_) (fun hc=>?_))|(refine xc_cond rfl (fun hc=>?_) (fun hc=>?_)))
  (with_reducible apply xs_call); exact rfl; exact rfl; exact awake16_ret _ (tab_only ht ho1')
  rintro v w' ⟨rfl, ho⟩; replace hs := hs.call0 ho; repeat' (first|refine vs (k:=?_)|refine ps (k:=?_)|((first|refine st hs (k:=?_)|refine stA hs (k:=?_));intro w hs)|((first|refine al hs (k:=?_)|refine bx hs (k:=?_)|refine bs hs (k:=?_));intro b w hz hs)|refine qRg ?_|refine Nx.h ?_|refine qBo ?_|refine qCt ?_|refine qCf ?_|((with_reducible apply xs_guard);exact rfl;exact rfl;intro c hc;(fail_if_success have:true=c:=hc);(fail_if_success have:false=c:=hc);cases c)|(refine xc_if rfl (fun hc=>?_) (fun hc=>?_))|(refine xc_cond rfl (fun hc=>?_) (fun hc=>?_)))
  (with_reducible apply xs_call); exact rfl; exact rfl; exact enter_nil .zero _
  rintro v w' ⟨rfl, ho⟩; replace hs := hs.call0 ho; repeat' (first|refine vs (k:=?_)|refine ps (k:=?_)|((first|refine st hs (k:=?_)|refine stA hs (k:=?_));intro w hs)|((first|refine al hs (k:=?_)|refine bx hs (k:=?_)|refine bs hs (k:=?_));intro b w hz hs)|refine qRg ?_|refine Nx.h ?_|refine qBo ?_|refine qCt ?_|refine qCf ?_|((with_reducible apply xs_guard);exact rfl;exact rfl;intro c hc;(fail_if_success have:true=c:=hc);(fail_if_success have:false=c:=hc);cases c)|(refine xc_if rfl (fun hc=>?_) (fun hc=>?_))|(refine xc_cond rfl (fun hc=>?_) (fun hc=>?_)))
  (with_reducible apply xs_call); exact rfl; exact rfl; exact put_nil .zero _
  rintro v w' ⟨rfl, ho⟩; replace hs := hs.call0 ho; repeat' (first|refine vs (k:=?_)|refine ps (k:=?_)|((first|refine st hs (k:=?_)|refine stA hs (k:=?_));intro w hs)|((first|refine al hs (k:=?_)|refine bx hs (k:=?_)|refine bs hs (k:=?_));intro b w hz hs)|refine qRg ?_|refine Nx.h ?_|refine qBo ?_|refine qCt ?_|refine qCf ?_|((with_reducible apply xs_guard);exact rfl;exact rfl;intro c hc;(fail_if_success have:true=c:=hc);(fail_if_success have:false=c:=hc);cases c)|(refine xc_if rfl (fun hc=>?_) (fun hc=>?_))|(refine xc_cond rfl (fun hc=>?_) (fun hc=>?_)))
  (with_reducible apply xs_call); exact rfl; exact rfl; exact rouse_nil 1 true _
  rintro v w' ⟨rfl, ho⟩; replace hs := hs.call0 ho; repeat' (first|refine vs (k:=?_)|refine ps (k:=?_)|((first|refine st hs (k:=?_)|refine stA hs (k:=?_));intro w hs)|((first|refine al hs (k:=?_)|refine bx hs (k:=?_)|refine bs hs (k:=?_));intro b w hz hs)|refine qRg ?_|refine Nx.h ?_|refine qBo ?_|refine qCt ?_|refine qCf ?_|((with_reducible apply xs_guard);exact rfl;exact rfl;intro c hc;(fail_if_success have:true=c:=hc);(fail_if_success have:false=c:=hc);cases c)|(refine xc_if rfl (fun hc=>?_) (fun hc=>?_))|(refine xc_cond rfl (fun hc=>?_) (fun hc=>?_)))
  (with_reducible apply xs_call); exact rfl; exact rfl; exact runnable_nil _
  rintro v w' ⟨rfl, ho⟩; replace hs := hs.call0 ho; repeat' (first|refine vs (k:=?_)|refine ps (k:=?_)|((first|refine st hs (k:=?_)|refine stA hs (k:=?_));intro w hs)|((first|refine al hs (k:=?_)|refine bx hs (k:=?_)|refine bs hs (k:=?_));intro b w hz hs)|refine qRg ?_|refine Nx.h ?_|refine qBo ?_|refine qCt ?_|refine qCf ?_|((with_reducible apply xs_guard);exact rfl;exact rfl;intro c hc;(fail_if_success have:true=c:=hc);(fail_if_success have:false=c:=hc);cases c)|(refine xc_if rfl (fun hc=>?_) (fun hc=>?_))|(refine xc_cond rfl (fun hc=>?_) (fun hc=>?_)))
  (with_reducible apply xs_call); exact rfl; exact rfl; exact reqs_nil _
  rintro v w' ⟨rfl, ho⟩; replace hs := hs.call0 ho; repeat' (first|refine vs (k:=?_)|refine ps (k:=?_)|((first|refine st hs (k:=?_)|refine stA hs (k:=?_));intro w hs)|((first|refine al hs (k:=?_)|refine bx hs (k:=?_)|refine bs hs (k:=?_));intro b w hz hs)|refine qRg ?_|refine Nx.h ?_|refine qBo ?_|refine qCt ?_|refine qCf ?_|((with_reducible apply xs_guard);exact rfl;exact rfl;intro c hc;(fail_if_success have:true=c:=hc);(fail_if_success have:false=c:=hc);cases c)|(refine xc_if rfl (fun hc=>?_) (fun hc=>?_))|(refine xc_cond rfl (fun hc=>?_) (fun hc=>?_)))
  (with_reducible apply xs_call); exact rfl; exact rfl; exact clone_nil _
  rintro v w' ⟨rfl, ho⟩; replace hs := hs.call0 ho; repeat' (first|refine vs (k:=?_)|refine ps (k:=?_)|((first|refine st hs (k:=?_)|refine stA hs (k:=?_));intro w hs)|((first|refine al hs (k:=?_)|refine bx hs (k:=?_)|refine bs hs (k:=?_));intro b w hz hs)|refine qRg ?_|refine Nx.h ?_|refine qBo ?_|refine qCt ?_|refine qCf ?_|((with_reducible apply xs_guard);exact rfl;exact rfl;intro c hc;(fail_if_success have:true=c:=hc);(fail_if_success have:false=c:=hc);cases c)|(refine xc_if rfl (fun hc=>?_) (fun hc=>?_))|(refine xc_cond rfl (fun hc=>?_) (fun hc=>?_)))
  have hSw := hS.only (hs.only0 rfl)
  have hzw := hs.size
  have hz1 := ho1'.size
  (with_reducible apply xs_call); exact rfl; exact rfl; exact enter_ret sb (newS 5) F0 rz _ hSw (by decide) (by decide) (by decide)
  rw [m1, m2]
  rintro v w3 ⟨rfl, F1, hS3, hF1, ho3⟩
  have hF1' : ∀ k ∈ F1, w0.heap.size ≤ k := fun k hk => by
    rcases hF1 k hk with h | h
    · exact hF0 k h
    · omega
  replace hs := hs.call ho3 (hSw.apart hs rfl) (by simp [D0])
  have hz3 := ho3.size
  repeat' (first|refine vs (k:=?_)|refine ps (k:=?_)|((first|refine st hs (k:=?_)|refine stA hs (k:=?_));intro w hs)|((first|refine al hs (k:=?_)|refine bx hs (k:=?_)|refine bs hs (k:=?_));intro b w hz hs)|refine qRg ?_|refine Nx.h ?_|refine qBo ?_|refine qCt ?_|refine qCf ?_|((with_reducible apply xs_guard);exact rfl;exact rfl;intro c hc;(fail_if_success have:true=c:=hc);(fail_if_success have:false=c:=hc);cases c)|(refine xc_if rfl (fun hc=>?_) (fun hc=>?_))|(refine xc_cond rfl (fun hc=>?_) (fun hc=>?_)))
  (with_reducible apply xs_call); exact rfl; exact rfl; exact put_wrong sb (newS 5) F1 rz _ hS3 (by decide) m3
  rintro v w4 ⟨rfl, F2, hS4, hF2, ho4⟩
  have hF2' : ∀ k ∈ F2, w0.heap.size ≤ k := fun k hk => by
    rcases hF2 k hk with h | h
    · exact hF1' k h
    · omega
  have hoB : Only [] w0 w4 := (ho1'.step (hs.only) (fun k hk => by
    have hk : k ∈ F0 ++ [] := hk
    rw [List.append_nil] at hk
    exact .inr (hF0 k hk))).step ho4 (fun k hk => .inr (hF1' k hk))
  clear hs
  obtain ⟨qb, mb, Fq, rfl, h1, h2, h3, h4, h5⟩ := hS4
  have hs := (St.nil w4).track h1 (by simp)
  repeat' (first|refine vs (k:=?_)|refine ps (k:=?_)|((first|refine st hs (k:=?_)|refine stA hs (k:=?_));intro w hs)|((first|refine al hs (k:=?_)|refine bx hs (k:=?_)|refine bs hs (k:=?_));intro b w hz hs)|refine qRg ?_|refine Nx.h ?_|refine qBo ?_|refine qCt ?_|refine qCf ?_|((with_reducible apply xs_guard);exact rfl;exact rfl;intro c hc;(fail_if_success have:true=c:=hc);(fail_if_success have:false=c:=hc);cases c)|(refine xc_if rfl (fun hc=>?_) (fun hc=>?_))|(refine xc_cond rfl (fun hc=>?_) (fun hc=>?_)))
  (with_reducible apply xs_call); exact rfl; exact rfl; exact qnow_ret qb (newS 5).q Fq _ (h3.only (hs.onlyF [] (by simp [h1]) (by simp [D0])))
  rw [show nowQ (newS 5).q = 5 from by kernel_rfl]
  rintro v w' ⟨rfl, ho⟩; replace hs := hs.call0 ho; repeat' (first|refine vs (k:=?_)|refine ps (k:=?_)|((first|refine st hs (k:=?_)|refine stA hs (k:=?_));intro w hs)|((first|refine al hs (k:=?_)|refine bx hs (k:=?_)|refine bs hs (k:=?_));intro b w hz hs)|refine qRg ?_|refine Nx.h ?_|refine qBo ?_|refine qCt ?_|refine qCf ?_|((with_reducible apply xs_guard);exact rfl;exact rfl;intro c hc;(fail_if_success have:true=c:=hc);(fail_if_success have:false=c:=hc);cases c)|(refine xc_if rfl (fun hc=>?_) (fun hc=>?_))|(refine xc_cond rfl (fun hc=>?_) (fun hc=>?_)))
  first | refine rt (hq := ?_) | refine rt' (hq := ?_)
  exact ⟨rfl, hoB.trans (hs.onlyF [] (by simp [h1]) (by simp [D0]))⟩
end Go.Proofs.YtegoaabjccignaaGreatDoorX

namespace Go.Proofs.YtegoaabjccignaaGreatDoorX
open Go
theorem door_met (os : Os) (args : Array Value) : laidMetH Tryz.prog [("math/bits.deBruijn32tab", YtegoaabjccignaaGreatDoor.Rows.laid_math_bits_deBruijn32tab), ("math/bits.deBruijn64tab", YtegoaabjccignaaGreatDoor.Rows.laid_math_bits_deBruijn64tab), ("internal/strconv.uint64pow10", YtegoaabjccignaaGreatDoor.Rows.laid_internal_strconv_uint64pow10)] ((World.doorLaid Tryz.prog 24 os).forCall (fun _ _ => 0) ⟨#[], args, []⟩).memory :=
  laidMetH_of_parts3 (fuel := 8) (laidMet_of_run' 8 (by kernel_rfl) (by kernel_rfl)) (by kernel_rfl) (by kernel_rfl)
theorem pows_of {W : World} (h : laidMetH Tryz.prog [("math/bits.deBruijn32tab", YtegoaabjccignaaGreatDoor.Rows.laid_math_bits_deBruijn32tab), ("math/bits.deBruijn64tab", YtegoaabjccignaaGreatDoor.Rows.laid_math_bits_deBruijn64tab), ("internal/strconv.uint64pow10", YtegoaabjccignaaGreatDoor.Rows.laid_internal_strconv_uint64pow10)] W) : Pows W := by
  rw [MakeChecks.laidMetH_plain _ _ _ (by kernel_rfl)] at h
  have h2 := h.tail.tail
  exact Lib.tabIs_of_head (g := (Tryz.prog.globalNamed "internal/strconv.uint64pow10").getD 0) (t := 218) (e := 28) (n := 20) (by kernel_rfl) (by kernel_rfl) (by kernel_rfl) (by kernel_rfl) (by kernel_rfl) (by kernel_rfl) h2
end Go.Proofs.YtegoaabjccignaaGreatDoorX

namespace Go.Proofs.YtegoaabjccignaaGreatDoorX
open Go Go.RowKit Go.ChangeShapes Go.WideShapes Go.ChangeAt
set_option maxRecDepth 100000 in
theorem setNone_lifted (os : Os) (started : os.Started) (H : Type) (enc : TypeId × Value → H) :
    ReturnsInHanded {} Tryz.checked os 4 .any (fun w args => (YtegoaabjccignaaGreatDoor.Rows.setNoneSpec.pre enc Tryz.prog Tryz.f4 [] false w args ∧ laidMetH Tryz.prog [("math/bits.deBruijn32tab", YtegoaabjccignaaGreatDoor.Rows.laid_math_bits_deBruijn32tab), ("math/bits.deBruijn64tab", YtegoaabjccignaaGreatDoor.Rows.laid_math_bits_deBruijn64tab), ("internal/strconv.uint64pow10", YtegoaabjccignaaGreatDoor.Rows.laid_internal_strconv_uint64pow10)] w) ∧ sizedMet enc Tryz.prog Tryz.f4 (OpenSpec.ofChange YtegoaabjccignaaGreatDoor.Rows.setNoneSpec) false w args) (YtegoaabjccignaaGreatDoor.Rows.setNoneSpec.post enc Tryz.prog Tryz.f4 false true false false) := by
  refine returnsInHanded_of_change_and (C := Tryz.checked) (X := fun w _ => laidMetH Tryz.prog [("math/bits.deBruijn32tab", YtegoaabjccignaaGreatDoor.Rows.laid_math_bits_deBruijn32tab), ("math/bits.deBruijn64tab", YtegoaabjccignaaGreatDoor.Rows.laid_math_bits_deBruijn64tab), ("internal/strconv.uint64pow10", YtegoaabjccignaaGreatDoor.Rows.laid_internal_strconv_uint64pow10)] w) (fun _ _ _ hh h => h.of_heap hh) own started (by kernel_rfl) Tryz.func4
    (ChangeSpec.witness_shaped (enc := enc) (C := Tryz.checked) (os := os) (X := fun w _ => laidMetH Tryz.prog [("math/bits.deBruijn32tab", YtegoaabjccignaaGreatDoor.Rows.laid_math_bits_deBruijn32tab), ("math/bits.deBruijn64tab", YtegoaabjccignaaGreatDoor.Rows.laid_math_bits_deBruijn64tab), ("internal/strconv.uint64pow10", YtegoaabjccignaaGreatDoor.Rows.laid_internal_strconv_uint64pow10)] w) false (World.doorLaid Tryz.prog 24 os) #[] 8 rfl (World.shaped_of_RefB (by kernel_rfl) (by kernel_rfl)) (by kernel_rfl) (by kernel_rfl) (by kernel_rfl) (door_met os _)) ?_
  intro W base args ds gs before hval0 hW hcnd hsz0 hL _
  have hP := pows_of hL
  have hval : ∀ (j : Nat) t v, Tryz.f4.params[j]? = some t → args[j]? = some v → Value.okWide Tryz.prog W .any base t v := hval0
  have hW' := hW
  obtain ⟨p, q, hA0, hV, rfl, hfz, hnd⟩ := hW
  have hA : DataW.TrodAll enc Tryz.prog W 0 (fun _ => true) true Tryz.f4.params.toList args.toList ds p := hA0
  rw [Tryz.params4] at hA hval
  obtain ⟨hargs, rfl, rfl⟩ := trodAll_nil hA
  obtain rfl : args = #[] := by cases args; simp_all
  obtain ⟨rfl, rfl⟩ := trodVars_none hV
  clear hA0 hval0 hsz0
  refine (ret_calls (by kernel_rfl) (setNone_ret W hP)).mono fun e W' ⟨v, he, hv, ho⟩ => ?_
  subst he hv
  have bel := ho.below
  exact ⟨_, rfl, _, _, _, [], _, [], hW', trodAll_mk1 (shut_bool (by kernel_rfl) _), trodAll_mk0, rfl, bel.frame _, fun h => by cases h⟩
end Go.Proofs.YtegoaabjccignaaGreatDoorX
namespace Go.Proofs.YtegoaabjccignaaGreatDoor
open Go Go.RowKit Go.ChangeShapes Go.WideShapes Go.ChangeAt
theorem setNone_holds : Rows.SetNoneSaid :=
  OpenClaim.holds_of_wide 4 Tryz.f4 rfl rfl rfl rfl rfl rfl rfl ⟨rfl, rfl, rfl, rfl, rfl⟩ rfl rfl rfl rfl rfl (by kernel_rfl) Tryz.func4 (by kernel_rfl)
    (of_decide_eq_true (by kernel_rfl)) (by unfold Func.isWrapper; first | (rw [if_pos (by decide +kernel)]; kernel_rfl) | (rw [if_neg (by decide +kernel)]; exact ⟨rfl, rfl⟩))
    (fun os started H enc _ => YtegoaabjccignaaGreatDoorX.setNone_lifted os started H enc)
theorem setNone_card : Rows.SetNoneCardSaid :=
  Claim7.holds_tied_plain_at .later [] [.data, .data, .data] true Rows.setNoneCard.stood.harness Rows.setNoneCard.stood.looks
    setNone_holds (fun _ h => by cases h) (by kernel_rfl) (fun _ h => by cases h) setNone_row_tie rfl ⟨rfl, rfl⟩ (by kernel_rfl) rfl
    (fun f fn hf hfn => by
      obtain rfl : f = 4 := Option.some.inj ((show Tryz.prog.funcNamed "turnstone/turnstonelaw16.SetNone" = some 4 by kernel_rfl).symm.trans hf) |>.symm
      obtain rfl : fn = Tryz.f4 := (Option.some.inj (Tryz.func4.symm.trans hfn)).symm
      exact ⟨by kernel_rfl, fun j t ht => by
        rw [Tryz.params4] at ht
        have hm : t ∈ [] := by simpa using Array.mem_of_getElem? ht
        have hall : ([].all fun u => !Tryz.prog.wantsStandIn u) = true := by kernel_rfl
        exact (show Tryz.prog.wantsStandIn t = false by simpa using List.all_eq_true.1 hall t hm)⟩)
    (by kernel_rfl)
end Go.Proofs.YtegoaabjccignaaGreatDoor
