/- A part of the proof: what its functions compute. -/
import Derived.Test.YtegoaabjccignaaGreatDoorM11
import Derived.Test.YtegoaabjccignaaGreatDoorProg
import Derived.Shelf.SlIterI.Nil
import Derived.Shelf.SortM.Plain
import Derived.Shelf.SortM.SortNone
import Derived.Ground.GgzProg
import Derived.Ground.SlgmProg
set_option linter.unusedVariables false
set_option linter.unusedSimpArgs false
set_option maxRecDepth 100000
namespace Go.Proofs.YtegoaabjccignaaGreatDoorX
open Go Go.RowKit
attribute [local irreducible] XS XC XA thenE blockE retE loopE loopS cutB cutN doneE SE
theorem ps_one {w : World} {b : Nat} {p : Pt} (hb : w.heap[b]? = some (.cells p.cells.toArray 32 (0, 0))) : PsAt w (.slice (some ⟨b, 0, none⟩) 1 1) [p] :=
  ⟨_, 1, rfl, fun _ => ⟨b, 0, _, (0, 0), rfl, Nat.le_refl _, hb, fun i x h => by
    cases i with
    | zero => cases h; exact pick_of rfl rfl
    | succ i => simp at h⟩⟩
theorem ps_two {w : World} {b : Nat} {p q : Pt} (hb : w.heap[b]? = some (.cells (p.cells ++ q.cells).toArray 32 (0, 0))) : PsAt w (.slice (some ⟨b, 0, none⟩) 2 2) [p, q] :=
  ⟨_, 2, rfl, fun _ => ⟨b, 0, _, (0, 0), rfl, Nat.le_refl _, hb, fun i x h => by
    rcases i with _ | _ | i
    · cases h; exact pick_of rfl rfl
    · cases h; exact pick_of rfl rfl
    · simp at h⟩⟩
set_option maxHeartbeats 2000000 in
theorem awake8_ret (w0 : World) (ht : Pows w0) : Ret Tryz.prog 175 #[] w0 fun v w' => v = .bool true ∧ Only [] w0 w' := by
  have hs := St.nil w0
  refine ret_of_xc Tryz.func175 (by kernel_rfl) rfl Tryz.ntmps175 rfl rfl rfl ?_
  repeat' (first|refine vs (k:=?_)|refine ps (k:=?_)|((first|refine st hs (k:=?_)|refine stA hs (k:=?_));intro w hs)|((first|refine al hs (k:=?_)|refine bx hs (k:=?_)|refine bs hs (k:=?_));intro b w hz hs)|refine qRg ?_|refine Nx.h ?_|refine qBo ?_|refine qCt ?_|refine qCf ?_|((with_reducible apply xs_guard);exact rfl;exact rfl;intro c hc;(fail_if_success have:true=c:=hc);(fail_if_success have:false=c:=hc);cases c)|(refine xc_if rfl (fun hc=>?_) (fun hc=>?_))|(refine xc_cond rfl (fun hc=>?_) (fun hc=>?_)))
  (with_reducible apply xs_call); exact rfl; exact rfl; exact of_mean_ret 5 [⟨5, 0, 1⟩, ⟨8, 0, 1⟩] _ (by decide) (by decide) (by simp) _ (ps_two (hs.get At.head))
  rw [show ofM 5 [⟨5, 0, 1⟩, ⟨8, 0, 1⟩] = some ⟨5, 3, 2, 2⟩ from by decide]
  rintro v w' ⟨rfl, ho⟩; replace hs := hs.call0 ho; repeat' (first|refine vs (k:=?_)|refine ps (k:=?_)|((first|refine st hs (k:=?_)|refine stA hs (k:=?_));intro w hs)|((first|refine al hs (k:=?_)|refine bx hs (k:=?_)|refine bs hs (k:=?_));intro b w hz hs)|refine qRg ?_|refine Nx.h ?_|refine qBo ?_|refine qCt ?_|refine qCf ?_|((with_reducible apply xs_guard);exact rfl;exact rfl;intro c hc;(fail_if_success have:true=c:=hc);(fail_if_success have:false=c:=hc);cases c)|(refine xc_if rfl (fun hc=>?_) (fun hc=>?_))|(refine xc_cond rfl (fun hc=>?_) (fun hc=>?_)))
  (with_reducible apply xs_call); exact rfl; exact rfl; exact floor_ret ⟨5, 3, 2, 2⟩ (by decide) _
  rw [show flM ⟨5, 3, 2, 2⟩ = some 6 from by decide]
  rintro v w' ⟨rfl, ho⟩; replace hs := hs.call0 ho; repeat' (first|refine vs (k:=?_)|refine ps (k:=?_)|((first|refine st hs (k:=?_)|refine stA hs (k:=?_));intro w hs)|((first|refine al hs (k:=?_)|refine bx hs (k:=?_)|refine bs hs (k:=?_));intro b w hz hs)|refine qRg ?_|refine Nx.h ?_|refine qBo ?_|refine qCt ?_|refine qCf ?_|((with_reducible apply xs_guard);exact rfl;exact rfl;intro c hc;(fail_if_success have:true=c:=hc);(fail_if_success have:false=c:=hc);cases c)|(refine xc_if rfl (fun hc=>?_) (fun hc=>?_))|(refine xc_cond rfl (fun hc=>?_) (fun hc=>?_)))
  (with_reducible apply xs_call); exact rfl; exact rfl; exact IB.Awake7_ret _
  rintro v w' ⟨rfl, ho⟩; replace hs := hs.call0 ho; repeat' (first|refine vs (k:=?_)|refine ps (k:=?_)|((first|refine st hs (k:=?_)|refine stA hs (k:=?_));intro w hs)|((first|refine al hs (k:=?_)|refine bx hs (k:=?_)|refine bs hs (k:=?_));intro b w hz hs)|refine qRg ?_|refine Nx.h ?_|refine qBo ?_|refine qCt ?_|refine qCf ?_|((with_reducible apply xs_guard);exact rfl;exact rfl;intro c hc;(fail_if_success have:true=c:=hc);(fail_if_success have:false=c:=hc);cases c)|(refine xc_if rfl (fun hc=>?_) (fun hc=>?_))|(refine xc_cond rfl (fun hc=>?_) (fun hc=>?_)))
  (with_reducible apply xs_call); exact rfl; exact rfl; exact string_ret 3 (by decide) _ (tab_only ht (hs.only0 rfl))
  rw [show textOf 3 = [51] from by kernel_rfl]
  rintro v w' ⟨rfl, ho⟩; replace hs := hs.call0 ho
  refine xs_val rfl (r_eqStr string_ty rfl rfl) ?_
  repeat' (first|refine vs (k:=?_)|refine ps (k:=?_)|((first|refine st hs (k:=?_)|refine stA hs (k:=?_));intro w hs)|((first|refine al hs (k:=?_)|refine bx hs (k:=?_)|refine bs hs (k:=?_));intro b w hz hs)|refine qRg ?_|refine Nx.h ?_|refine qBo ?_|refine qCt ?_|refine qCf ?_|((with_reducible apply xs_guard);exact rfl;exact rfl;intro c hc;(fail_if_success have:true=c:=hc);(fail_if_success have:false=c:=hc);cases c)|(refine xc_if rfl (fun hc=>?_) (fun hc=>?_))|(refine xc_cond rfl (fun hc=>?_) (fun hc=>?_)))
  first | refine rt (hq := ?_) | refine rt' (hq := ?_)
  exact ⟨rfl, hs.only0 rfl⟩
theorem Awake8_ret (w0 : World) (ht : Pows w0) : Ret Tryz.prog 174 #[] w0 fun v w' => v = .bool true ∧ Only [] w0 w' := by
  have hs := St.nil w0
  refine ret_of_xc Tryz.func174 (by kernel_rfl) rfl Tryz.ntmps174 rfl rfl rfl ?_
  repeat' (first|refine vs (k:=?_)|refine ps (k:=?_)|((first|refine st hs (k:=?_)|refine stA hs (k:=?_));intro w hs)|((first|refine al hs (k:=?_)|refine bx hs (k:=?_)|refine bs hs (k:=?_));intro b w hz hs)|refine qRg ?_|refine Nx.h ?_|refine qBo ?_|refine qCt ?_|refine qCf ?_|((with_reducible apply xs_guard);exact rfl;exact rfl;intro c hc;(fail_if_success have:true=c:=hc);(fail_if_success have:false=c:=hc);cases c)|(refine xc_if rfl (fun hc=>?_) (fun hc=>?_))|(refine xc_cond rfl (fun hc=>?_) (fun hc=>?_)))
  (with_reducible apply xs_call); exact rfl; exact rfl; exact awake8_ret _ ht
  rintro v w' ⟨rfl, ho⟩; replace hs := hs.call0 ho; repeat' (first|refine vs (k:=?_)|refine ps (k:=?_)|((first|refine st hs (k:=?_)|refine stA hs (k:=?_));intro w hs)|((first|refine al hs (k:=?_)|refine bx hs (k:=?_)|refine bs hs (k:=?_));intro b w hz hs)|refine qRg ?_|refine Nx.h ?_|refine qBo ?_|refine qCt ?_|refine qCf ?_|((with_reducible apply xs_guard);exact rfl;exact rfl;intro c hc;(fail_if_success have:true=c:=hc);(fail_if_success have:false=c:=hc);cases c)|(refine xc_if rfl (fun hc=>?_) (fun hc=>?_))|(refine xc_cond rfl (fun hc=>?_) (fun hc=>?_)))
  first | refine rt (hq := ?_) | refine rt' (hq := ?_)
  exact ⟨rfl, hs.only0 rfl⟩
set_option maxHeartbeats 2000000 in
theorem awake9_ret (w0 : World) (ht : Pows w0) : Ret Tryz.prog 173 #[] w0 fun v w' => v = .bool true ∧ Only [] w0 w' := by
  have hs := St.nil w0
  refine ret_of_xc Tryz.func173 (by kernel_rfl) rfl Tryz.ntmps173 rfl rfl rfl ?_
  repeat' (first|refine vs (k:=?_)|refine ps (k:=?_)|((first|refine st hs (k:=?_)|refine stA hs (k:=?_));intro w hs)|((first|refine al hs (k:=?_)|refine bx hs (k:=?_)|refine bs hs (k:=?_));intro b w hz hs)|refine qRg ?_|refine Nx.h ?_|refine qBo ?_|refine qCt ?_|refine qCf ?_|((with_reducible apply xs_guard);exact rfl;exact rfl;intro c hc;(fail_if_success have:true=c:=hc);(fail_if_success have:false=c:=hc);cases c)|(refine xc_if rfl (fun hc=>?_) (fun hc=>?_))|(refine xc_cond rfl (fun hc=>?_) (fun hc=>?_)))
  (with_reducible apply xs_call); exact rfl; exact rfl; exact of_mean_ret 5 [⟨5, 0, 1⟩, ⟨8, 0, 1⟩] _ (by decide) (by decide) (by simp) _ (ps_two (hs.get At.head))
  rw [show ofM 5 [⟨5, 0, 1⟩, ⟨8, 0, 1⟩] = some ⟨5, 3, 2, 2⟩ from by decide]
  rintro v w' ⟨rfl, ho⟩; replace hs := hs.call0 ho; repeat' (first|refine vs (k:=?_)|refine ps (k:=?_)|((first|refine st hs (k:=?_)|refine stA hs (k:=?_));intro w hs)|((first|refine al hs (k:=?_)|refine bx hs (k:=?_)|refine bs hs (k:=?_));intro b w hz hs)|refine qRg ?_|refine Nx.h ?_|refine qBo ?_|refine qCt ?_|refine qCf ?_|((with_reducible apply xs_guard);exact rfl;exact rfl;intro c hc;(fail_if_success have:true=c:=hc);(fail_if_success have:false=c:=hc);cases c)|(refine xc_if rfl (fun hc=>?_) (fun hc=>?_))|(refine xc_cond rfl (fun hc=>?_) (fun hc=>?_)))
  (with_reducible apply xs_call); exact rfl; exact rfl; exact read_ret ⟨5, 3, 2, 2⟩ ⟨5, 0, 1⟩ (by decide) (by decide) _
  rw [show rdM ⟨5, 3, 2, 2⟩ ⟨5, 0, 1⟩ = some 1 from by decide]
  rintro v w' ⟨rfl, ho⟩; replace hs := hs.call0 ho; repeat' (first|refine vs (k:=?_)|refine ps (k:=?_)|((first|refine st hs (k:=?_)|refine stA hs (k:=?_));intro w hs)|((first|refine al hs (k:=?_)|refine bx hs (k:=?_)|refine bs hs (k:=?_));intro b w hz hs)|refine qRg ?_|refine Nx.h ?_|refine qBo ?_|refine qCt ?_|refine qCf ?_|((with_reducible apply xs_guard);exact rfl;exact rfl;intro c hc;(fail_if_success have:true=c:=hc);(fail_if_success have:false=c:=hc);cases c)|(refine xc_if rfl (fun hc=>?_) (fun hc=>?_))|(refine xc_cond rfl (fun hc=>?_) (fun hc=>?_)))
  (with_reducible apply xs_call); exact rfl; exact rfl; exact read_ret ⟨5, 3, 2, 2⟩ ⟨8, 0, 1⟩ (by decide) (by decide) _
  rw [show rdM ⟨5, 3, 2, 2⟩ ⟨8, 0, 1⟩ = some (-2) from by decide]
  rintro v w' ⟨rfl, ho⟩; replace hs := hs.call0 ho; repeat' (first|refine vs (k:=?_)|refine ps (k:=?_)|((first|refine st hs (k:=?_)|refine stA hs (k:=?_));intro w hs)|((first|refine al hs (k:=?_)|refine bx hs (k:=?_)|refine bs hs (k:=?_));intro b w hz hs)|refine qRg ?_|refine Nx.h ?_|refine qBo ?_|refine qCt ?_|refine qCf ?_|((with_reducible apply xs_guard);exact rfl;exact rfl;intro c hc;(fail_if_success have:true=c:=hc);(fail_if_success have:false=c:=hc);cases c)|(refine xc_if rfl (fun hc=>?_) (fun hc=>?_))|(refine xc_cond rfl (fun hc=>?_) (fun hc=>?_)))
  refine dr [] hs (k := ?_); intro hX w hs
  refine dt 0 hX (k := ?_)
  (with_reducible apply xs_call); exact rfl; exact rfl; exact Awake8_ret _ (tab_only ht (hs.only0 rfl))
  rintro v w' ⟨rfl, ho⟩; replace hs := hs.call0 ho; repeat' (first|refine vs (k:=?_)|refine ps (k:=?_)|((first|refine st hs (k:=?_)|refine stA hs (k:=?_));intro w hs)|((first|refine al hs (k:=?_)|refine bx hs (k:=?_)|refine bs hs (k:=?_));intro b w hz hs)|refine qRg ?_|refine Nx.h ?_|refine qBo ?_|refine qCt ?_|refine qCf ?_|((with_reducible apply xs_guard);exact rfl;exact rfl;intro c hc;(fail_if_success have:true=c:=hc);(fail_if_success have:false=c:=hc);cases c)|(refine xc_if rfl (fun hc=>?_) (fun hc=>?_))|(refine xc_cond rfl (fun hc=>?_) (fun hc=>?_)))
  refine dn (k := ?_)
  refine tk 1 hX (k := ?_)
  refine tk 2 hX (k := ?_)
  refine tk 3 hX (k := ?_)
  refine tk 4 hX (k := ?_)
  refine tk 5 hX (k := ?_)
  refine tk 6 hX (k := ?_)
  refine tk 7 hX (k := ?_)
  refine tk 8 hX (k := ?_)
  refine tk 9 hX (k := ?_)
  refine tk 10 hX (k := ?_)
  refine tk 11 hX (k := ?_)
  refine dt 12 hX (k := ?_)
  (with_reducible apply xs_call); exact rfl; exact rfl; exact of_ret 1 (by decide) (by decide) _
  rintro v w' ⟨rfl, ho⟩; replace hs := hs.call0 ho; repeat' (first|refine vs (k:=?_)|refine ps (k:=?_)|((first|refine st hs (k:=?_)|refine stA hs (k:=?_));intro w hs)|((first|refine al hs (k:=?_)|refine bx hs (k:=?_)|refine bs hs (k:=?_));intro b w hz hs)|refine qRg ?_|refine Nx.h ?_|refine qBo ?_|refine qCt ?_|refine qCf ?_|((with_reducible apply xs_guard);exact rfl;exact rfl;intro c hc;(fail_if_success have:true=c:=hc);(fail_if_success have:false=c:=hc);cases c)|(refine xc_if rfl (fun hc=>?_) (fun hc=>?_))|(refine xc_cond rfl (fun hc=>?_) (fun hc=>?_)))
  refine dn (k := ?_)
  refine tk 13 hX (k := ?_)
  refine tk 14 hX (k := ?_)
  refine tk 15 hX (k := ?_)
  refine tk 16 hX (k := ?_)
  refine dt 17 hX (k := ?_)
  (with_reducible apply xs_call); exact rfl; exact rfl; exact of_ret (-2) (by decide) (by decide) _
  rintro v w' ⟨rfl, ho⟩; replace hs := hs.call0 ho; repeat' (first|refine vs (k:=?_)|refine ps (k:=?_)|((first|refine st hs (k:=?_)|refine stA hs (k:=?_));intro w hs)|((first|refine al hs (k:=?_)|refine bx hs (k:=?_)|refine bs hs (k:=?_));intro b w hz hs)|refine qRg ?_|refine Nx.h ?_|refine qBo ?_|refine qCt ?_|refine qCf ?_|((with_reducible apply xs_guard);exact rfl;exact rfl;intro c hc;(fail_if_success have:true=c:=hc);(fail_if_success have:false=c:=hc);cases c)|(refine xc_if rfl (fun hc=>?_) (fun hc=>?_))|(refine xc_cond rfl (fun hc=>?_) (fun hc=>?_)))
  refine dn (k := ?_)
  refine tk 18 hX (k := ?_)
  refine tk 19 hX (k := ?_)
  refine tk 20 hX (k := ?_)
  refine tk 21 hX (k := ?_)
  refine tk 22 hX (k := ?_)
  refine dt 23 hX (k := ?_)
  (with_reducible apply xs_call); exact rfl; exact rfl; exact elig_ret ⟨5, 3, 2, 2⟩ ⟨5, 0, 1⟩ (by decide) (by decide) _
  rw [show elig ⟨5, 3, 2, 2⟩ ⟨5, 0, 1⟩ = true from by decide]
  rintro v w' ⟨rfl, ho⟩; replace hs := hs.call0 ho; repeat' (first|refine vs (k:=?_)|refine ps (k:=?_)|((first|refine st hs (k:=?_)|refine stA hs (k:=?_));intro w hs)|((first|refine al hs (k:=?_)|refine bx hs (k:=?_)|refine bs hs (k:=?_));intro b w hz hs)|refine qRg ?_|refine Nx.h ?_|refine qBo ?_|refine qCt ?_|refine qCf ?_|((with_reducible apply xs_guard);exact rfl;exact rfl;intro c hc;(fail_if_success have:true=c:=hc);(fail_if_success have:false=c:=hc);cases c)|(refine xc_if rfl (fun hc=>?_) (fun hc=>?_))|(refine xc_cond rfl (fun hc=>?_) (fun hc=>?_)))
  refine dn (k := ?_)
  refine tk 24 hX (k := ?_)
  refine tk 25 hX (k := ?_)
  refine tk 26 hX (k := ?_)
  refine tk 27 hX (k := ?_)
  refine dt 28 hX (k := ?_)
  (with_reducible apply xs_call); exact rfl; exact rfl; exact elig_ret ⟨5, 3, 2, 2⟩ ⟨8, 0, 1⟩ (by decide) (by decide) _
  rw [show elig ⟨5, 3, 2, 2⟩ ⟨8, 0, 1⟩ = false from by decide]
  rintro v w' ⟨rfl, ho⟩; replace hs := hs.call0 ho; repeat' (first|refine vs (k:=?_)|refine ps (k:=?_)|((first|refine st hs (k:=?_)|refine stA hs (k:=?_));intro w hs)|((first|refine al hs (k:=?_)|refine bx hs (k:=?_)|refine bs hs (k:=?_));intro b w hz hs)|refine qRg ?_|refine Nx.h ?_|refine qBo ?_|refine qCt ?_|refine qCf ?_|((with_reducible apply xs_guard);exact rfl;exact rfl;intro c hc;(fail_if_success have:true=c:=hc);(fail_if_success have:false=c:=hc);cases c)|(refine xc_if rfl (fun hc=>?_) (fun hc=>?_))|(refine xc_cond rfl (fun hc=>?_) (fun hc=>?_)))
  refine dn (k := ?_)
  refine tk 29 hX (k := ?_)
  refine tk 30 hX (k := ?_)
  refine tk 31 hX (k := ?_)
  refine en (k := ?_)
  repeat' (first|refine vs (k:=?_)|refine ps (k:=?_)|((first|refine st hs (k:=?_)|refine stA hs (k:=?_));intro w hs)|((first|refine al hs (k:=?_)|refine bx hs (k:=?_)|refine bs hs (k:=?_));intro b w hz hs)|refine qRg ?_|refine Nx.h ?_|refine qBo ?_|refine qCt ?_|refine qCf ?_|((with_reducible apply xs_guard);exact rfl;exact rfl;intro c hc;(fail_if_success have:true=c:=hc);(fail_if_success have:false=c:=hc);cases c)|(refine xc_if rfl (fun hc=>?_) (fun hc=>?_))|(refine xc_cond rfl (fun hc=>?_) (fun hc=>?_)))
  first | refine rt (hq := ?_) | refine rt' (hq := ?_)
  exact ⟨rfl, hs.only0 rfl⟩
theorem Awake9_ret (w0 : World) (ht : Pows w0) : Ret Tryz.prog 172 #[] w0 fun v w' => v = .bool true ∧ Only [] w0 w' := by
  have hs := St.nil w0
  refine ret_of_xc Tryz.func172 (by kernel_rfl) rfl Tryz.ntmps172 rfl rfl rfl ?_
  repeat' (first|refine vs (k:=?_)|refine ps (k:=?_)|((first|refine st hs (k:=?_)|refine stA hs (k:=?_));intro w hs)|((first|refine al hs (k:=?_)|refine bx hs (k:=?_)|refine bs hs (k:=?_));intro b w hz hs)|refine qRg ?_|refine Nx.h ?_|refine qBo ?_|refine qCt ?_|refine qCf ?_|((with_reducible apply xs_guard);exact rfl;exact rfl;intro c hc;(fail_if_success have:true=c:=hc);(fail_if_success have:false=c:=hc);cases c)|(refine xc_if rfl (fun hc=>?_) (fun hc=>?_))|(refine xc_cond rfl (fun hc=>?_) (fun hc=>?_)))
  (with_reducible apply xs_call); exact rfl; exact rfl; exact awake9_ret _ ht
  rintro v w' ⟨rfl, ho⟩; replace hs := hs.call0 ho; repeat' (first|refine vs (k:=?_)|refine ps (k:=?_)|((first|refine st hs (k:=?_)|refine stA hs (k:=?_));intro w hs)|((first|refine al hs (k:=?_)|refine bx hs (k:=?_)|refine bs hs (k:=?_));intro b w hz hs)|refine qRg ?_|refine Nx.h ?_|refine qBo ?_|refine qCt ?_|refine qCf ?_|((with_reducible apply xs_guard);exact rfl;exact rfl;intro c hc;(fail_if_success have:true=c:=hc);(fail_if_success have:false=c:=hc);cases c)|(refine xc_if rfl (fun hc=>?_) (fun hc=>?_))|(refine xc_cond rfl (fun hc=>?_) (fun hc=>?_)))
  first | refine rt (hq := ?_) | refine rt' (hq := ?_)
  exact ⟨rfl, hs.only0 rfl⟩
set_option maxHeartbeats 2000000 in
theorem awake10_ret (w0 : World) (ht : Pows w0) : Ret Tryz.prog 170 #[] w0 fun v w' => v = .bool true ∧ Only [] w0 w' := by
  have hs := St.nil w0
  refine ret_of_xc Tryz.func170 (by kernel_rfl) rfl Tryz.ntmps170 rfl rfl rfl ?_
  repeat' (first|refine vs (k:=?_)|refine ps (k:=?_)|((first|refine st hs (k:=?_)|refine stA hs (k:=?_));intro w hs)|((first|refine al hs (k:=?_)|refine bx hs (k:=?_)|refine bs hs (k:=?_));intro b w hz hs)|refine qRg ?_|refine Nx.h ?_|refine qBo ?_|refine qCt ?_|refine qCf ?_|((with_reducible apply xs_guard);exact rfl;exact rfl;intro c hc;(fail_if_success have:true=c:=hc);(fail_if_success have:false=c:=hc);cases c)|(refine xc_if rfl (fun hc=>?_) (fun hc=>?_))|(refine xc_cond rfl (fun hc=>?_) (fun hc=>?_)))
  (with_reducible apply xs_call); exact rfl; exact rfl; exact of_mean_ret 0 [⟨10, 0, 1⟩] _ (by decide) (by decide) (by simp) _ (ps_one (hs.get At.head))
  rw [show ofM 0 [⟨10, 0, 1⟩] = some ⟨0, 10, 1, 1⟩ from by decide]
  rintro v w' ⟨rfl, ho⟩; replace hs := hs.call0 ho; repeat' (first|refine vs (k:=?_)|refine ps (k:=?_)|((first|refine st hs (k:=?_)|refine stA hs (k:=?_));intro w hs)|((first|refine al hs (k:=?_)|refine bx hs (k:=?_)|refine bs hs (k:=?_));intro b w hz hs)|refine qRg ?_|refine Nx.h ?_|refine qBo ?_|refine qCt ?_|refine qCf ?_|((with_reducible apply xs_guard);exact rfl;exact rfl;intro c hc;(fail_if_success have:true=c:=hc);(fail_if_success have:false=c:=hc);cases c)|(refine xc_if rfl (fun hc=>?_) (fun hc=>?_))|(refine xc_cond rfl (fun hc=>?_) (fun hc=>?_)))
  (with_reducible apply xs_call); exact rfl; exact rfl; exact place_ret ⟨0, 10, 1, 1⟩ 0 1 2 (by decide) (by decide) (by decide) _
  rw [show plM ⟨0, 10, 1, 1⟩ 0 1 2 = some ⟨6, 0, 1⟩ from by decide]
  rintro v w' ⟨rfl, ho⟩; replace hs := hs.call0 ho; repeat' (first|refine vs (k:=?_)|refine ps (k:=?_)|((first|refine st hs (k:=?_)|refine stA hs (k:=?_));intro w hs)|((first|refine al hs (k:=?_)|refine bx hs (k:=?_)|refine bs hs (k:=?_));intro b w hz hs)|refine qRg ?_|refine Nx.h ?_|refine qBo ?_|refine qCt ?_|refine qCf ?_|((with_reducible apply xs_guard);exact rfl;exact rfl;intro c hc;(fail_if_success have:true=c:=hc);(fail_if_success have:false=c:=hc);cases c)|(refine xc_if rfl (fun hc=>?_) (fun hc=>?_))|(refine xc_cond rfl (fun hc=>?_) (fun hc=>?_)))
  (with_reducible apply xs_call); exact rfl; exact rfl; exact Awake9_ret _ (tab_only ht (hs.only0 rfl))
  rintro v w' ⟨rfl, ho⟩; replace hs := hs.call0 ho; repeat' (first|refine vs (k:=?_)|refine ps (k:=?_)|((first|refine st hs (k:=?_)|refine stA hs (k:=?_));intro w hs)|((first|refine al hs (k:=?_)|refine bx hs (k:=?_)|refine bs hs (k:=?_));intro b w hz hs)|refine qRg ?_|refine Nx.h ?_|refine qBo ?_|refine qCt ?_|refine qCf ?_|((with_reducible apply xs_guard);exact rfl;exact rfl;intro c hc;(fail_if_success have:true=c:=hc);(fail_if_success have:false=c:=hc);cases c)|(refine xc_if rfl (fun hc=>?_) (fun hc=>?_))|(refine xc_cond rfl (fun hc=>?_) (fun hc=>?_)))
  first | refine rt (hq := ?_) | refine rt' (hq := ?_)
  exact ⟨rfl, hs.only0 rfl⟩
theorem Awake10_ret (w0 : World) (ht : Pows w0) : Ret Tryz.prog 168 #[] w0 fun v w' => v = .bool true ∧ Only [] w0 w' := by
  have hs := St.nil w0
  refine ret_of_xc Tryz.func168 (by kernel_rfl) rfl Tryz.ntmps168 rfl rfl rfl ?_
  repeat' (first|refine vs (k:=?_)|refine ps (k:=?_)|((first|refine st hs (k:=?_)|refine stA hs (k:=?_));intro w hs)|((first|refine al hs (k:=?_)|refine bx hs (k:=?_)|refine bs hs (k:=?_));intro b w hz hs)|refine qRg ?_|refine Nx.h ?_|refine qBo ?_|refine qCt ?_|refine qCf ?_|((with_reducible apply xs_guard);exact rfl;exact rfl;intro c hc;(fail_if_success have:true=c:=hc);(fail_if_success have:false=c:=hc);cases c)|(refine xc_if rfl (fun hc=>?_) (fun hc=>?_))|(refine xc_cond rfl (fun hc=>?_) (fun hc=>?_)))
  (with_reducible apply xs_call); exact rfl; exact rfl; exact awake10_ret _ ht
  rintro v w' ⟨rfl, ho⟩; replace hs := hs.call0 ho; repeat' (first|refine vs (k:=?_)|refine ps (k:=?_)|((first|refine st hs (k:=?_)|refine stA hs (k:=?_));intro w hs)|((first|refine al hs (k:=?_)|refine bx hs (k:=?_)|refine bs hs (k:=?_));intro b w hz hs)|refine qRg ?_|refine Nx.h ?_|refine qBo ?_|refine qCt ?_|refine qCf ?_|((with_reducible apply xs_guard);exact rfl;exact rfl;intro c hc;(fail_if_success have:true=c:=hc);(fail_if_success have:false=c:=hc);cases c)|(refine xc_if rfl (fun hc=>?_) (fun hc=>?_))|(refine xc_cond rfl (fun hc=>?_) (fun hc=>?_)))
  first | refine rt (hq := ?_) | refine rt' (hq := ?_)
  exact ⟨rfl, hs.only0 rfl⟩
set_option maxHeartbeats 2000000 in
theorem awake11_ret (w0 : World) (ht : Pows w0) : Ret Tryz.prog 163 #[] w0 fun v w' => v = .bool true ∧ Only [] w0 w' := by
  have hs := St.nil w0
  refine ret_of_xc Tryz.func163 (by kernel_rfl) rfl Tryz.ntmps163 rfl rfl rfl ?_
  repeat' (first|refine vs (k:=?_)|refine ps (k:=?_)|((first|refine st hs (k:=?_)|refine stA hs (k:=?_));intro w hs)|((first|refine al hs (k:=?_)|refine bx hs (k:=?_)|refine bs hs (k:=?_));intro b w hz hs)|refine qRg ?_|refine Nx.h ?_|refine qBo ?_|refine qCt ?_|refine qCf ?_|((with_reducible apply xs_guard);exact rfl;exact rfl;intro c hc;(fail_if_success have:true=c:=hc);(fail_if_success have:false=c:=hc);cases c)|(refine xc_if rfl (fun hc=>?_) (fun hc=>?_))|(refine xc_cond rfl (fun hc=>?_) (fun hc=>?_)))
  (with_reducible apply xs_call); exact rfl; exact rfl; exact of_mean_ret 5 [⟨5, 0, 1⟩, ⟨8, 0, 1⟩] _ (by decide) (by decide) (by simp) _ (ps_two (hs.get At.head))
  rw [show ofM 5 [⟨5, 0, 1⟩, ⟨8, 0, 1⟩] = some ⟨5, 3, 2, 2⟩ from by decide]
  rintro v w' ⟨rfl, ho⟩; replace hs := hs.call0 ho; repeat' (first|refine vs (k:=?_)|refine ps (k:=?_)|((first|refine st hs (k:=?_)|refine stA hs (k:=?_));intro w hs)|((first|refine al hs (k:=?_)|refine bx hs (k:=?_)|refine bs hs (k:=?_));intro b w hz hs)|refine qRg ?_|refine Nx.h ?_|refine qBo ?_|refine qCt ?_|refine qCf ?_|((with_reducible apply xs_guard);exact rfl;exact rfl;intro c hc;(fail_if_success have:true=c:=hc);(fail_if_success have:false=c:=hc);cases c)|(refine xc_if rfl (fun hc=>?_) (fun hc=>?_))|(refine xc_cond rfl (fun hc=>?_) (fun hc=>?_)))
  (with_reducible apply xs_call); exact rfl; exact rfl; exact weigh_ret ⟨5, 3, 2, 2⟩ ⟨8, 0, 1⟩ 2 (by decide) (by decide) (by decide) _
  rw [show weM ⟨5, 3, 2, 2⟩ ⟨8, 0, 1⟩ 2 = some ⟨7, 0, 2⟩ from by decide]
  rintro v w' ⟨rfl, ho⟩; replace hs := hs.call0 ho; repeat' (first|refine vs (k:=?_)|refine ps (k:=?_)|((first|refine st hs (k:=?_)|refine stA hs (k:=?_));intro w hs)|((first|refine al hs (k:=?_)|refine bx hs (k:=?_)|refine bs hs (k:=?_));intro b w hz hs)|refine qRg ?_|refine Nx.h ?_|refine qBo ?_|refine qCt ?_|refine qCf ?_|((with_reducible apply xs_guard);exact rfl;exact rfl;intro c hc;(fail_if_success have:true=c:=hc);(fail_if_success have:false=c:=hc);cases c)|(refine xc_if rfl (fun hc=>?_) (fun hc=>?_))|(refine xc_cond rfl (fun hc=>?_) (fun hc=>?_)))
  (with_reducible apply xs_call); exact rfl; exact rfl; exact Awake10_ret _ (tab_only ht (hs.only0 rfl))
  rintro v w' ⟨rfl, ho⟩; replace hs := hs.call0 ho; repeat' (first|refine vs (k:=?_)|refine ps (k:=?_)|((first|refine st hs (k:=?_)|refine stA hs (k:=?_));intro w hs)|((first|refine al hs (k:=?_)|refine bx hs (k:=?_)|refine bs hs (k:=?_));intro b w hz hs)|refine qRg ?_|refine Nx.h ?_|refine qBo ?_|refine qCt ?_|refine qCf ?_|((with_reducible apply xs_guard);exact rfl;exact rfl;intro c hc;(fail_if_success have:true=c:=hc);(fail_if_success have:false=c:=hc);cases c)|(refine xc_if rfl (fun hc=>?_) (fun hc=>?_))|(refine xc_cond rfl (fun hc=>?_) (fun hc=>?_)))
  first | refine rt (hq := ?_) | refine rt' (hq := ?_)
  exact ⟨rfl, hs.only0 rfl⟩
theorem Awake11_ret (w0 : World) (ht : Pows w0) : Ret Tryz.prog 161 #[] w0 fun v w' => v = .bool true ∧ Only [] w0 w' := by
  have hs := St.nil w0
  refine ret_of_xc Tryz.func161 (by kernel_rfl) rfl Tryz.ntmps161 rfl rfl rfl ?_
  repeat' (first|refine vs (k:=?_)|refine ps (k:=?_)|((first|refine st hs (k:=?_)|refine stA hs (k:=?_));intro w hs)|((first|refine al hs (k:=?_)|refine bx hs (k:=?_)|refine bs hs (k:=?_));intro b w hz hs)|refine qRg ?_|refine Nx.h ?_|refine qBo ?_|refine qCt ?_|refine qCf ?_|((with_reducible apply xs_guard);exact rfl;exact rfl;intro c hc;(fail_if_success have:true=c:=hc);(fail_if_success have:false=c:=hc);cases c)|(refine xc_if rfl (fun hc=>?_) (fun hc=>?_))|(refine xc_cond rfl (fun hc=>?_) (fun hc=>?_)))
  (with_reducible apply xs_call); exact rfl; exact rfl; exact awake11_ret _ ht
  rintro v w' ⟨rfl, ho⟩; replace hs := hs.call0 ho; repeat' (first|refine vs (k:=?_)|refine ps (k:=?_)|((first|refine st hs (k:=?_)|refine stA hs (k:=?_));intro w hs)|((first|refine al hs (k:=?_)|refine bx hs (k:=?_)|refine bs hs (k:=?_));intro b w hz hs)|refine qRg ?_|refine Nx.h ?_|refine qBo ?_|refine qCt ?_|refine qCf ?_|((with_reducible apply xs_guard);exact rfl;exact rfl;intro c hc;(fail_if_success have:true=c:=hc);(fail_if_success have:false=c:=hc);cases c)|(refine xc_if rfl (fun hc=>?_) (fun hc=>?_))|(refine xc_cond rfl (fun hc=>?_) (fun hc=>?_)))
  first | refine rt (hq := ?_) | refine rt' (hq := ?_)
  exact ⟨rfl, hs.only0 rfl⟩
theorem wat_two {w : World} {b : Nat} {x y : Int} (hb : w.heap[b]? = some (.cells #[.int .i64 (x / 18446744073709551616), .int .u64 (x % 18446744073709551616), .int .i64 (y / 18446744073709551616), .int .u64 (y % 18446744073709551616)] 58 (0, 0))) : WAt w (.slice (some ⟨b, 0, none⟩) 2 2) [x, y] :=
  ⟨_, 2, rfl, fun _ => ⟨b, 0, _, _, (0, 0), rfl, hb, fun i x h => by
    rcases i with _ | _ | i
    · cases h; exact ⟨rfl, rfl⟩
    · cases h; exact ⟨rfl, rfl⟩
    · simp at h⟩⟩
set_option maxHeartbeats 2000000 in
theorem awake12_ret (w0 : World) (ht : Pows w0) : Ret Tryz.prog 159 #[] w0 fun v w' => v = .bool true ∧ Only [] w0 w' := by
  have hs := St.nil w0
  refine ret_of_xc Tryz.func159 (by kernel_rfl) rfl Tryz.ntmps159 rfl rfl rfl ?_
  repeat' (first|refine vs (k:=?_)|refine ps (k:=?_)|((first|refine st hs (k:=?_)|refine stA hs (k:=?_));intro w hs)|((first|refine al hs (k:=?_)|refine bx hs (k:=?_)|refine bs hs (k:=?_));intro b w hz hs)|refine qRg ?_|refine Nx.h ?_|refine qBo ?_|refine qCt ?_|refine qCf ?_|((with_reducible apply xs_guard);exact rfl;exact rfl;intro c hc;(fail_if_success have:true=c:=hc);(fail_if_success have:false=c:=hc);cases c)|(refine xc_if rfl (fun hc=>?_) (fun hc=>?_))|(refine xc_cond rfl (fun hc=>?_) (fun hc=>?_)))
  (with_reducible apply xs_call); exact rfl; exact rfl; exact window_ret 1 1 (by decide) (by decide) _
  rw [show winC 1 1 = some 3145728 from by decide]
  rintro v w' ⟨rfl, ho⟩; replace hs := hs.call0 ho; repeat' (first|refine vs (k:=?_)|refine ps (k:=?_)|((first|refine st hs (k:=?_)|refine stA hs (k:=?_));intro w hs)|((first|refine al hs (k:=?_)|refine bx hs (k:=?_)|refine bs hs (k:=?_));intro b w hz hs)|refine qRg ?_|refine Nx.h ?_|refine qBo ?_|refine qCt ?_|refine qCf ?_|((with_reducible apply xs_guard);exact rfl;exact rfl;intro c hc;(fail_if_success have:true=c:=hc);(fail_if_success have:false=c:=hc);cases c)|(refine xc_if rfl (fun hc=>?_) (fun hc=>?_))|(refine xc_cond rfl (fun hc=>?_) (fun hc=>?_)))
  (with_reducible apply xs_call); exact rfl; exact rfl; exact Awake11_ret _ (tab_only ht (hs.only0 rfl))
  rintro v w' ⟨rfl, ho⟩; replace hs := hs.call0 ho; repeat' (first|refine vs (k:=?_)|refine ps (k:=?_)|((first|refine st hs (k:=?_)|refine stA hs (k:=?_));intro w hs)|((first|refine al hs (k:=?_)|refine bx hs (k:=?_)|refine bs hs (k:=?_));intro b w hz hs)|refine qRg ?_|refine Nx.h ?_|refine qBo ?_|refine qCt ?_|refine qCf ?_|((with_reducible apply xs_guard);exact rfl;exact rfl;intro c hc;(fail_if_success have:true=c:=hc);(fail_if_success have:false=c:=hc);cases c)|(refine xc_if rfl (fun hc=>?_) (fun hc=>?_))|(refine xc_cond rfl (fun hc=>?_) (fun hc=>?_)))
  (with_reducible apply xs_call); exact rfl; exact rfl; exact of_ret (-5) (by decide) (by decide) _
  rintro v w' ⟨rfl, ho⟩; replace hs := hs.call0 ho; repeat' (first|refine vs (k:=?_)|refine ps (k:=?_)|((first|refine st hs (k:=?_)|refine stA hs (k:=?_));intro w hs)|((first|refine al hs (k:=?_)|refine bx hs (k:=?_)|refine bs hs (k:=?_));intro b w hz hs)|refine qRg ?_|refine Nx.h ?_|refine qBo ?_|refine qCt ?_|refine qCf ?_|((with_reducible apply xs_guard);exact rfl;exact rfl;intro c hc;(fail_if_success have:true=c:=hc);(fail_if_success have:false=c:=hc);cases c)|(refine xc_if rfl (fun hc=>?_) (fun hc=>?_))|(refine xc_cond rfl (fun hc=>?_) (fun hc=>?_)))
  (with_reducible apply xs_call); exact rfl; exact rfl; exact of_ret 0 (by decide) (by decide) _
  rintro v w' ⟨rfl, ho⟩; replace hs := hs.call0 ho; repeat' (first|refine vs (k:=?_)|refine ps (k:=?_)|((first|refine st hs (k:=?_)|refine stA hs (k:=?_));intro w hs)|((first|refine al hs (k:=?_)|refine bx hs (k:=?_)|refine bs hs (k:=?_));intro b w hz hs)|refine qRg ?_|refine Nx.h ?_|refine qBo ?_|refine qCt ?_|refine qCf ?_|((with_reducible apply xs_guard);exact rfl;exact rfl;intro c hc;(fail_if_success have:true=c:=hc);(fail_if_success have:false=c:=hc);cases c)|(refine xc_if rfl (fun hc=>?_) (fun hc=>?_))|(refine xc_cond rfl (fun hc=>?_) (fun hc=>?_)))
  (with_reducible apply xs_call); exact rfl; exact rfl; exact carried_ret [-5, 0] _ (fun i x h => (by
    have hy := List.mem_of_getElem? h
    simp only [List.mem_cons, List.not_mem_nil, or_false] at hy
    rcases hy with rfl | rfl <;> decide)) (by simp) _ (wat_two (hs.get At.head))
  rw [show caF 0 [-5, 0] = 9 from by decide]
  rintro v w' ⟨rfl, ho⟩; replace hs := hs.call0 ho; repeat' (first|refine vs (k:=?_)|refine ps (k:=?_)|((first|refine st hs (k:=?_)|refine stA hs (k:=?_));intro w hs)|((first|refine al hs (k:=?_)|refine bx hs (k:=?_)|refine bs hs (k:=?_));intro b w hz hs)|refine qRg ?_|refine Nx.h ?_|refine qBo ?_|refine qCt ?_|refine qCf ?_|((with_reducible apply xs_guard);exact rfl;exact rfl;intro c hc;(fail_if_success have:true=c:=hc);(fail_if_success have:false=c:=hc);cases c)|(refine xc_if rfl (fun hc=>?_) (fun hc=>?_))|(refine xc_cond rfl (fun hc=>?_) (fun hc=>?_)))
  (with_reducible apply xs_call); exact rfl; exact rfl; exact of_ret 9 (by decide) (by decide) _
  rintro v w' ⟨rfl, ho⟩; replace hs := hs.call0 ho; repeat' (first|refine vs (k:=?_)|refine ps (k:=?_)|((first|refine st hs (k:=?_)|refine stA hs (k:=?_));intro w hs)|((first|refine al hs (k:=?_)|refine bx hs (k:=?_)|refine bs hs (k:=?_));intro b w hz hs)|refine qRg ?_|refine Nx.h ?_|refine qBo ?_|refine qCt ?_|refine qCf ?_|((with_reducible apply xs_guard);exact rfl;exact rfl;intro c hc;(fail_if_success have:true=c:=hc);(fail_if_success have:false=c:=hc);cases c)|(refine xc_if rfl (fun hc=>?_) (fun hc=>?_))|(refine xc_cond rfl (fun hc=>?_) (fun hc=>?_)))
  first | refine rt (hq := ?_) | refine rt' (hq := ?_)
  exact ⟨rfl, hs.only0 rfl⟩
theorem Awake12_ret (w0 : World) (ht : Pows w0) : Ret Tryz.prog 157 #[] w0 fun v w' => v = .bool true ∧ Only [] w0 w' := by
  have hs := St.nil w0
  refine ret_of_xc Tryz.func157 (by kernel_rfl) rfl Tryz.ntmps157 rfl rfl rfl ?_
  repeat' (first|refine vs (k:=?_)|refine ps (k:=?_)|((first|refine st hs (k:=?_)|refine stA hs (k:=?_));intro w hs)|((first|refine al hs (k:=?_)|refine bx hs (k:=?_)|refine bs hs (k:=?_));intro b w hz hs)|refine qRg ?_|refine Nx.h ?_|refine qBo ?_|refine qCt ?_|refine qCf ?_|((with_reducible apply xs_guard);exact rfl;exact rfl;intro c hc;(fail_if_success have:true=c:=hc);(fail_if_success have:false=c:=hc);cases c)|(refine xc_if rfl (fun hc=>?_) (fun hc=>?_))|(refine xc_cond rfl (fun hc=>?_) (fun hc=>?_)))
  (with_reducible apply xs_call); exact rfl; exact rfl; exact awake12_ret _ ht
  rintro v w' ⟨rfl, ho⟩; replace hs := hs.call0 ho; repeat' (first|refine vs (k:=?_)|refine ps (k:=?_)|((first|refine st hs (k:=?_)|refine stA hs (k:=?_));intro w hs)|((first|refine al hs (k:=?_)|refine bx hs (k:=?_)|refine bs hs (k:=?_));intro b w hz hs)|refine qRg ?_|refine Nx.h ?_|refine qBo ?_|refine qCt ?_|refine qCf ?_|((with_reducible apply xs_guard);exact rfl;exact rfl;intro c hc;(fail_if_success have:true=c:=hc);(fail_if_success have:false=c:=hc);cases c)|(refine xc_if rfl (fun hc=>?_) (fun hc=>?_))|(refine xc_cond rfl (fun hc=>?_) (fun hc=>?_)))
  first | refine rt (hq := ?_) | refine rt' (hq := ?_)
  exact ⟨rfl, hs.only0 rfl⟩
theorem its_one {w : World} {b : Nat} {a : It} (hb : w.heap[b]? = some (.cells a.cells.toArray 34 (0, 0))) : ItsAt w (.slice (some ⟨b, 0, none⟩) 1 1) [a] := IB.its_one hb
set_option maxHeartbeats 2000000 in
theorem awake13_ret (w0 : World) (ht : Pows w0) : Ret Tryz.prog 154 #[] w0 fun v w' => v = .bool true ∧ Only [] w0 w' := by
  have hs := St.nil w0
  refine ret_of_xc Tryz.func154 (by kernel_rfl) rfl Tryz.ntmps154 rfl rfl rfl ?_
  repeat' (first|refine vs (k:=?_)|refine ps (k:=?_)|((first|refine st hs (k:=?_)|refine stA hs (k:=?_));intro w hs)|((first|refine al hs (k:=?_)|refine bx hs (k:=?_)|refine bs hs (k:=?_));intro b w hz hs)|refine qRg ?_|refine Nx.h ?_|refine qBo ?_|refine qCt ?_|refine qCf ?_|((with_reducible apply xs_guard);exact rfl;exact rfl;intro c hc;(fail_if_success have:true=c:=hc);(fail_if_success have:false=c:=hc);cases c)|(refine xc_if rfl (fun hc=>?_) (fun hc=>?_))|(refine xc_cond rfl (fun hc=>?_) (fun hc=>?_)))
  refine xs_val (v := pv ⟨0, 0, 0⟩) rfl (r_fieldV (k := 0) (t := 32) (n := 3) (by kernel_rfl) (by kernel_rfl) rfl rfl) ?_
  (with_reducible apply xs_call); exact rfl; exact rfl; exact pshift_ret ⟨0, 0, 0⟩ 4611686018427387905 _
  rw [show Pt.shift ⟨0, 0, 0⟩ 4611686018427387905 = ⟨4611686018427387905, 0, 0⟩ from by decide]
  rintro v w' ⟨rfl, ho⟩; replace hs := hs.call0 ho; repeat' (first|refine vs (k:=?_)|refine ps (k:=?_)|((first|refine st hs (k:=?_)|refine stA hs (k:=?_));intro w hs)|((first|refine al hs (k:=?_)|refine bx hs (k:=?_)|refine bs hs (k:=?_));intro b w hz hs)|refine qRg ?_|refine Nx.h ?_|refine qBo ?_|refine qCt ?_|refine qCf ?_|((with_reducible apply xs_guard);exact rfl;exact rfl;intro c hc;(fail_if_success have:true=c:=hc);(fail_if_success have:false=c:=hc);cases c)|(refine xc_if rfl (fun hc=>?_) (fun hc=>?_))|(refine xc_cond rfl (fun hc=>?_) (fun hc=>?_)))
  (with_reducible apply xs_call); exact rfl; exact rfl; exact Awake12_ret _ (tab_only ht (hs.only0 rfl))
  rintro v w' ⟨rfl, ho⟩; replace hs := hs.call0 ho; repeat' (first|refine vs (k:=?_)|refine ps (k:=?_)|((first|refine st hs (k:=?_)|refine stA hs (k:=?_));intro w hs)|((first|refine al hs (k:=?_)|refine bx hs (k:=?_)|refine bs hs (k:=?_));intro b w hz hs)|refine qRg ?_|refine Nx.h ?_|refine qBo ?_|refine qCt ?_|refine qCf ?_|((with_reducible apply xs_guard);exact rfl;exact rfl;intro c hc;(fail_if_success have:true=c:=hc);(fail_if_success have:false=c:=hc);cases c)|(refine xc_if rfl (fun hc=>?_) (fun hc=>?_))|(refine xc_cond rfl (fun hc=>?_) (fun hc=>?_)))
  (with_reducible apply xs_call); exact rfl; exact rfl; exact room0_ret _
  rintro v w' ⟨rfl, ho⟩; replace hs := hs.call0 ho; repeat' (first|refine vs (k:=?_)|refine ps (k:=?_)|((first|refine st hs (k:=?_)|refine stA hs (k:=?_));intro w hs)|((first|refine al hs (k:=?_)|refine bx hs (k:=?_)|refine bs hs (k:=?_));intro b w hz hs)|refine qRg ?_|refine Nx.h ?_|refine qBo ?_|refine qCt ?_|refine qCf ?_|((with_reducible apply xs_guard);exact rfl;exact rfl;intro c hc;(fail_if_success have:true=c:=hc);(fail_if_success have:false=c:=hc);cases c)|(refine xc_if rfl (fun hc=>?_) (fun hc=>?_))|(refine xc_cond rfl (fun hc=>?_) (fun hc=>?_)))
  (with_reducible apply xs_call); exact rfl; exact rfl; exact within_ret 0 [⟨⟨0, 0, 0⟩, 0, ⟨4611686018427387905, 0, 0⟩⟩] _ (by simp) _ (its_one (hs.get At.head))
  rw [show within 0 [⟨⟨0, 0, 0⟩, 0, ⟨4611686018427387905, 0, 0⟩⟩] = false from by decide]
  rintro v w' ⟨rfl, ho⟩; replace hs := hs.call0 ho; repeat' (first|refine vs (k:=?_)|refine ps (k:=?_)|((first|refine st hs (k:=?_)|refine stA hs (k:=?_));intro w hs)|((first|refine al hs (k:=?_)|refine bx hs (k:=?_)|refine bs hs (k:=?_));intro b w hz hs)|refine qRg ?_|refine Nx.h ?_|refine qBo ?_|refine qCt ?_|refine qCf ?_|((with_reducible apply xs_guard);exact rfl;exact rfl;intro c hc;(fail_if_success have:true=c:=hc);(fail_if_success have:false=c:=hc);cases c)|(refine xc_if rfl (fun hc=>?_) (fun hc=>?_))|(refine xc_cond rfl (fun hc=>?_) (fun hc=>?_)))
  first | refine rt (hq := ?_) | refine rt' (hq := ?_)
  exact ⟨rfl, hs.only0 rfl⟩
theorem Awake13_ret (w0 : World) (ht : Pows w0) : Ret Tryz.prog 142 #[] w0 fun v w' => v = .bool true ∧ Only [] w0 w' := by
  have hs := St.nil w0
  refine ret_of_xc Tryz.func142 (by kernel_rfl) rfl Tryz.ntmps142 rfl rfl rfl ?_
  repeat' (first|refine vs (k:=?_)|refine ps (k:=?_)|((first|refine st hs (k:=?_)|refine stA hs (k:=?_));intro w hs)|((first|refine al hs (k:=?_)|refine bx hs (k:=?_)|refine bs hs (k:=?_));intro b w hz hs)|refine qRg ?_|refine Nx.h ?_|refine qBo ?_|refine qCt ?_|refine qCf ?_|((with_reducible apply xs_guard);exact rfl;exact rfl;intro c hc;(fail_if_success have:true=c:=hc);(fail_if_success have:false=c:=hc);cases c)|(refine xc_if rfl (fun hc=>?_) (fun hc=>?_))|(refine xc_cond rfl (fun hc=>?_) (fun hc=>?_)))
  (with_reducible apply xs_call); exact rfl; exact rfl; exact awake13_ret _ ht
  rintro v w' ⟨rfl, ho⟩; replace hs := hs.call0 ho; repeat' (first|refine vs (k:=?_)|refine ps (k:=?_)|((first|refine st hs (k:=?_)|refine stA hs (k:=?_));intro w hs)|((first|refine al hs (k:=?_)|refine bx hs (k:=?_)|refine bs hs (k:=?_));intro b w hz hs)|refine qRg ?_|refine Nx.h ?_|refine qBo ?_|refine qCt ?_|refine qCf ?_|((with_reducible apply xs_guard);exact rfl;exact rfl;intro c hc;(fail_if_success have:true=c:=hc);(fail_if_success have:false=c:=hc);cases c)|(refine xc_if rfl (fun hc=>?_) (fun hc=>?_))|(refine xc_cond rfl (fun hc=>?_) (fun hc=>?_)))
  first | refine rt (hq := ?_) | refine rt' (hq := ?_)
  exact ⟨rfl, hs.only0 rfl⟩
end Go.Proofs.YtegoaabjccignaaGreatDoorX

namespace Go.Proofs.YtegoaabjccignaaGreatDoorX
open Go Go.RowKit
open IB (IT ITsAt flatT)
attribute [local irreducible] XS XC XA thenE blockE retE loopE loopS cutB cutN doneE SE
theorem St.news {wb w w' : World} {D : Ctx} {H : List Ent} {F : List Nat} (h : St wb D H w) (ho : Only F w w') (hn : ∀ k ∈ F, wb.heap.size ≤ k) (hF : ∀ k ∈ F, k ∉ H.map (·.1)) (hR : D.ro = []) : St wb D H w' where
  at_ := fun e he => ho.block (h.at_ e he) fun hm => hF _ hm (List.mem_map_of_mem he)
  nd := h.nd
  new := h.new
  os := ho.os.trans h.os
  tape := ho.tape.trans h.tape
  output := ho.output.trans h.output
  size := Nat.le_trans h.size ho.size
  frame := fun k hk hd hm => by
    rw [ho.frame k (Nat.lt_of_lt_of_le hk h.size) (fun hf => by have := hn k hf; omega)]; exact h.frame k hk hd hm
  ro := fun e he => by rw [hR] at he; cases he
  ap := h.ap
def okQ : Obj → Bool
  | .cells _ ty _ => !(Nat.beq ty 147) && !(Nat.beq ty 140) && !(Nat.beq ty 83)
  | _ => false
theorem QAt.apart {wb w : World} {D : Ctx} {H : List Ent} {qb : Nat} {s : Qs} {F : List Nat} (h : QAt w qb s F) (hs : St wb D H w) (hH : (H.all fun e => okQ e.2.1) = true) : ∀ k ∈ F, k ∉ H.map (·.1) := fun k hk hm => by
  obtain ⟨e, he, rfl⟩ := List.mem_map.1 hm
  have h1 := List.all_eq_true.1 hH e he
  have h2 := hs.at_ e he
  cases ho : e.2.1 with
  | cells cs ty fz =>
    rw [ho] at h1 h2
    simp only [okQ, Bool.and_eq_true, Bool.not_eq_true'] at h1
    exact h.not h2 (fun e => by rw [e] at h1; exact absurd h1.1.1 (by decide)) (fun e => by rw [e] at h1; exact absurd h1.1.2 (by decide)) (fun e => by rw [e] at h1; exact absurd h1.2 (by decide)) hk
  | _ => rw [ho] at h1; cases h1
def ia : IT := ⟨⟨⟨5, 0, 1⟩, 1, ⟨9, 0, 1⟩⟩, by decide⟩
def ib : IT := ⟨⟨⟨8, 0, 1⟩, 2, ⟨8, 0, 1⟩⟩, by decide⟩
theorem j1 : joinE (newQ 0) ia = 0 := by kernel_rfl
theorem j2 : joinE (joinQ (newQ 0) ia) ib = 0 := by kernel_rfl
theorem j3 : (joinQ (joinQ (newQ 0) ia) ib).t.list.length = 2 := by kernel_rfl
theorem j4 : owedQ (joinQ (joinQ (newQ 0) ia) ib) 1 = 1 := by kernel_rfl
theorem j5 : owedQ (joinQ (joinQ (newQ 0) ia) ib) 2 = -1 := by kernel_rfl
theorem j8 : ((joinQ (joinQ (newQ 0) ia) ib).f 1).isSome = true := by kernel_rfl
theorem j9 : ((joinQ (joinQ (newQ 0) ia) ib).f 2).isSome = true := by kernel_rfl
theorem j6 : soonQ (joinQ (joinQ (newQ 0) ia) ib) = some ia := by kernel_rfl
set_option maxHeartbeats 4000000 in
theorem awake14_ret (w0 : World) (ht : Pows w0) : Ret Tryz.prog 114 #[] w0 fun v w' => v = .bool true ∧ Only [] w0 w' := by
  have hs := St.nil w0
  refine ret_of_xc Tryz.func114 (by kernel_rfl) rfl Tryz.ntmps114 rfl rfl rfl ?_
  repeat' (first|refine vs (k:=?_)|refine ps (k:=?_)|((first|refine st hs (k:=?_)|refine stA hs (k:=?_));intro w hs)|((first|refine al hs (k:=?_)|refine bx hs (k:=?_)|refine bs hs (k:=?_));intro b w hz hs)|refine qRg ?_|refine Nx.h ?_|refine qBo ?_|refine qCt ?_|refine qCf ?_|((with_reducible apply xs_guard);exact rfl;exact rfl;intro c hc;(fail_if_success have:true=c:=hc);(fail_if_success have:false=c:=hc);cases c)|(refine xc_if rfl (fun hc=>?_) (fun hc=>?_))|(refine xc_cond rfl (fun hc=>?_) (fun hc=>?_)))
  (with_reducible apply xs_call); exact rfl; exact rfl; exact qnew_ret 0 (by decide) _
  rintro v w1 ⟨⟨qb, F0, rfl, hQ, hF0⟩, ho1⟩
  have hF0 : ∀ k ∈ F0, w0.heap.size ≤ k := fun k hk => by have := hF0 k hk; have := hs.size; omega
  have hz1 := ho1.size
  have hq := hs.call0 ho1
  have ho1' := hq.only0 rfl
  clear hs hq
  have hs := St.nil w1
  refine vs (k := ?_)
  repeat' (first|refine vs (k:=?_)|refine ps (k:=?_)|((first|refine st hs (k:=?_)|refine stA hs (k:=?_));intro w hs)|((first|refine al hs (k:=?_)|refine bx hs (k:=?_)|refine bs hs (k:=?_));intro b w hz hs)|refine qRg ?_|refine Nx.h ?_|refine qBo ?_|refine qCt ?_|refine qCf ?_|((with_reducible apply xs_guard);exact rfl;exact rfl;intro c hc;(fail_if_success have:true=c:=hc);(fail_if_success have:false=c:=hc);cases c)|(refine xc_if rfl (fun hc=>?_) (fun hc=>?_))|(refine xc_cond rfl (fun hc=>?_) (fun hc=>?_)))
  refine dr [] hs (k := ?_); intro hX w hs
  refine tk 0 hX (k := ?_)
  refine tk 1 hX (k := ?_)
  refine tk 3 hX (k := ?_)
  refine tk 4 hX (k := ?_)
  refine dt 2 hX (k := ?_)
  have hQ1 := hQ.only (hs.only0 rfl)
  (with_reducible apply xs_call); exact rfl; exact rfl; exact qjoin_ret qb (newQ 0) F0 ia _ hQ1 (by decide) (by decide)
  rintro v w2 ⟨rfl, F1, hQ2, hF1, ho2⟩
  rw [j1]
  have hzw := hs.size
  replace hs := hs.call ho2 (hQ1.apart hs rfl) (by simp [D0])
  have hF1' : ∀ k ∈ F1, w0.heap.size ≤ k := fun k hk => by
    rcases hF1 k hk with h | h
    · exact hF0 k h
    · omega
  repeat' (first|refine vs (k:=?_)|refine ps (k:=?_)|((first|refine st hs (k:=?_)|refine stA hs (k:=?_));intro w hs)|((first|refine al hs (k:=?_)|refine bx hs (k:=?_)|refine bs hs (k:=?_));intro b w hz hs)|refine qRg ?_|refine Nx.h ?_|refine qBo ?_|refine qCt ?_|refine qCf ?_|((with_reducible apply xs_guard);exact rfl;exact rfl;intro c hc;(fail_if_success have:true=c:=hc);(fail_if_success have:false=c:=hc);cases c)|(refine xc_if rfl (fun hc=>?_) (fun hc=>?_))|(refine xc_cond rfl (fun hc=>?_) (fun hc=>?_)))
  refine dn (k := ?_)
  refine dt 5 hX (k := ?_)
  (with_reducible apply xs_call); exact rfl; exact rfl; exact qjoin_ret qb (joinQ (newQ 0) ia) F1 ib _ hQ2 (by decide) (by decide)
  rintro v w3 ⟨rfl, F2, hQ3, hF2, ho3⟩
  rw [j2]
  replace hs := hs.call ho3 (hQ2.apart hs rfl) (by simp [D0])
  have hm : ∀ w', Only (F1 ++ (F0 ++ [])) w1 w' → Only [] w0 w' := fun w' ho => ho1'.step ho (fun k hk => by
    rw [List.append_nil, List.mem_append] at hk
    rcases hk with hk | hk
    · exact .inr (hF1' k hk)
    · exact .inr (hF0 k hk))
  have hlen := j3
  have e1 := j4
  have e2 := j5
  have e3 := j6
  have hf1 := j8
  have hf2 := j9
  generalize joinQ (joinQ (newQ 0) ia) ib = s at *
  have kQ : ∀ w', Only [] w3 w' → QAt w' qb s F2 := fun w' ho => hQ3.only ho
  clear hQ hQ1 hQ2
  repeat' (first|refine vs (k:=?_)|refine ps (k:=?_)|((first|refine st hs (k:=?_)|refine stA hs (k:=?_));intro w hs)|((first|refine al hs (k:=?_)|refine bx hs (k:=?_)|refine bs hs (k:=?_));intro b w hz hs)|refine qRg ?_|refine Nx.h ?_|refine qBo ?_|refine qCt ?_|refine qCf ?_|((with_reducible apply xs_guard);exact rfl;exact rfl;intro c hc;(fail_if_success have:true=c:=hc);(fail_if_success have:false=c:=hc);cases c)|(refine xc_if rfl (fun hc=>?_) (fun hc=>?_))|(refine xc_cond rfl (fun hc=>?_) (fun hc=>?_)))
  refine dn (k := ?_)
  refine tk 6 hX (k := ?_)
  refine tk 7 hX (k := ?_)
  refine en (k := ?_)
  repeat' (first|refine vs (k:=?_)|refine ps (k:=?_)|((first|refine st hs (k:=?_)|refine stA hs (k:=?_));intro w hs)|((first|refine al hs (k:=?_)|refine bx hs (k:=?_)|refine bs hs (k:=?_));intro b w hz hs)|refine qRg ?_|refine Nx.h ?_|refine qBo ?_|refine qCt ?_|refine qCf ?_|((with_reducible apply xs_guard);exact rfl;exact rfl;intro c hc;(fail_if_success have:true=c:=hc);(fail_if_success have:false=c:=hc);cases c)|(refine xc_if rfl (fun hc=>?_) (fun hc=>?_))|(refine xc_cond rfl (fun hc=>?_) (fun hc=>?_)))
  (with_reducible apply xs_call); exact rfl; exact rfl; exact qowed_ret qb s F2 1 _ hQ3 (by decide)
  rw [e1, hf1]
  rintro v w4 ⟨rfl, ho4⟩; replace hQ3 := hQ3.only ho4; replace hs := hs.call0 ho4
  repeat' (first|refine vs (k:=?_)|refine ps (k:=?_)|((first|refine st hs (k:=?_)|refine stA hs (k:=?_));intro w hs)|((first|refine al hs (k:=?_)|refine bx hs (k:=?_)|refine bs hs (k:=?_));intro b w hz hs)|refine qRg ?_|refine Nx.h ?_|refine qBo ?_|refine qCt ?_|refine qCf ?_|((with_reducible apply xs_guard);exact rfl;exact rfl;intro c hc;(fail_if_success have:true=c:=hc);(fail_if_success have:false=c:=hc);cases c)|(refine xc_if rfl (fun hc=>?_) (fun hc=>?_))|(refine xc_cond rfl (fun hc=>?_) (fun hc=>?_)))
  (with_reducible apply xs_call); exact rfl; exact rfl; exact qowed_ret qb s F2 2 _ hQ3 (by decide)
  rw [e2, hf2]
  rintro v w5 ⟨rfl, ho5⟩; replace hQ3 := hQ3.only ho5; replace hs := hs.call0 ho5
  repeat' (first|refine vs (k:=?_)|refine ps (k:=?_)|((first|refine st hs (k:=?_)|refine stA hs (k:=?_));intro w hs)|((first|refine al hs (k:=?_)|refine bx hs (k:=?_)|refine bs hs (k:=?_));intro b w hz hs)|refine qRg ?_|refine Nx.h ?_|refine qBo ?_|refine qCt ?_|refine qCf ?_|((with_reducible apply xs_guard);exact rfl;exact rfl;intro c hc;(fail_if_success have:true=c:=hc);(fail_if_success have:false=c:=hc);cases c)|(refine xc_if rfl (fun hc=>?_) (fun hc=>?_))|(refine xc_cond rfl (fun hc=>?_) (fun hc=>?_)))
  (with_reducible apply xs_call); exact rfl; exact rfl; exact qsoonest_ret qb s F2 _ hQ3
  rw [e3]
  rintro v w' ⟨rfl, ho⟩; replace hs := hs.call0 ho; repeat' (first|refine vs (k:=?_)|refine ps (k:=?_)|((first|refine st hs (k:=?_)|refine stA hs (k:=?_));intro w hs)|((first|refine al hs (k:=?_)|refine bx hs (k:=?_)|refine bs hs (k:=?_));intro b w hz hs)|refine qRg ?_|refine Nx.h ?_|refine qBo ?_|refine qCt ?_|refine qCf ?_|((with_reducible apply xs_guard);exact rfl;exact rfl;intro c hc;(fail_if_success have:true=c:=hc);(fail_if_success have:false=c:=hc);cases c)|(refine xc_if rfl (fun hc=>?_) (fun hc=>?_))|(refine xc_cond rfl (fun hc=>?_) (fun hc=>?_)))
  (with_reducible apply xs_call); exact rfl; exact rfl; exact Awake13_ret _ (tab_only ht (hm _ hs.only))
  rintro v w' ⟨rfl, ho⟩; replace hs := hs.call0 ho; repeat' (first|refine vs (k:=?_)|refine ps (k:=?_)|((first|refine st hs (k:=?_)|refine stA hs (k:=?_));intro w hs)|((first|refine al hs (k:=?_)|refine bx hs (k:=?_)|refine bs hs (k:=?_));intro b w hz hs)|refine qRg ?_|refine Nx.h ?_|refine qBo ?_|refine qCt ?_|refine qCf ?_|((with_reducible apply xs_guard);exact rfl;exact rfl;intro c hc;(fail_if_success have:true=c:=hc);(fail_if_success have:false=c:=hc);cases c)|(refine xc_if rfl (fun hc=>?_) (fun hc=>?_))|(refine xc_cond rfl (fun hc=>?_) (fun hc=>?_)))
  first | refine rt (hq := ?_) | refine rt' (hq := ?_)
  exact ⟨rfl, hm _ hs.only⟩
theorem Awake14_ret (w0 : World) (ht : Pows w0) : Ret Tryz.prog 83 #[] w0 fun v w' => v = .bool true ∧ Only [] w0 w' := by
  have hs := St.nil w0
  refine ret_of_xc Tryz.func83 (by kernel_rfl) rfl Tryz.ntmps83 rfl rfl rfl ?_
  repeat' (first|refine vs (k:=?_)|refine ps (k:=?_)|((first|refine st hs (k:=?_)|refine stA hs (k:=?_));intro w hs)|((first|refine al hs (k:=?_)|refine bx hs (k:=?_)|refine bs hs (k:=?_));intro b w hz hs)|refine qRg ?_|refine Nx.h ?_|refine qBo ?_|refine qCt ?_|refine qCf ?_|((with_reducible apply xs_guard);exact rfl;exact rfl;intro c hc;(fail_if_success have:true=c:=hc);(fail_if_success have:false=c:=hc);cases c)|(refine xc_if rfl (fun hc=>?_) (fun hc=>?_))|(refine xc_cond rfl (fun hc=>?_) (fun hc=>?_)))
  (with_reducible apply xs_call); exact rfl; exact rfl; exact awake14_ret _ ht
  rintro v w' ⟨rfl, ho⟩; replace hs := hs.call0 ho; repeat' (first|refine vs (k:=?_)|refine ps (k:=?_)|((first|refine st hs (k:=?_)|refine stA hs (k:=?_));intro w hs)|((first|refine al hs (k:=?_)|refine bx hs (k:=?_)|refine bs hs (k:=?_));intro b w hz hs)|refine qRg ?_|refine Nx.h ?_|refine qBo ?_|refine qCt ?_|refine qCf ?_|((with_reducible apply xs_guard);exact rfl;exact rfl;intro c hc;(fail_if_success have:true=c:=hc);(fail_if_success have:false=c:=hc);cases c)|(refine xc_if rfl (fun hc=>?_) (fun hc=>?_))|(refine xc_cond rfl (fun hc=>?_) (fun hc=>?_)))
  first | refine rt (hq := ?_) | refine rt' (hq := ?_)
  exact ⟨rfl, hs.only0 rfl⟩
theorem n1 : newR ⟨1, 0, 1⟩ 1 3 = some ⟨⟨⟨1, 0, 1⟩, 1, ⟨3145729, 0, 1⟩⟩, 3, 3, false⟩ := by kernel_rfl
theorem n2 : servedL ⟨⟨⟨1, 0, 1⟩, 1, ⟨3145729, 0, 1⟩⟩, 3, 3, false⟩ 0 [1, 2] = some (⟨⟨⟨3145729, 0, 1⟩, 1, ⟨6291457, 0, 1⟩⟩, 3, 3, false⟩, 1) := by kernel_rfl
theorem u64_two {w : World} {b : Nat} {x y : Int} (hb : w.heap[b]? = some (.cells #[.int .u64 x, .int .u64 y] 28 (0, 0))) : LsAt w 28 1 (.slice (some ⟨b, 0, none⟩) 2 2) ([x, y].map fun n => [.int .u64 n]) :=
  ⟨_, 2, rfl, fun _ => ⟨b, 0, _, (0, 0), rfl, Nat.le_refl _, hb, fun i x h => by
    rcases i with _ | _ | i
    · cases h; exact pick_of rfl rfl
    · cases h; exact pick_of rfl rfl
    · simp at h⟩⟩
set_option maxHeartbeats 4000000 in
theorem awake15_ret (w0 : World) (ht : Pows w0) : Ret Tryz.prog 47 #[] w0 fun v w' => v = .bool true ∧ Only [] w0 w' := by
  have hs := St.nil w0
  refine ret_of_xc Tryz.func47 (by kernel_rfl) rfl Tryz.ntmps47 rfl rfl rfl ?_
  repeat' (first|refine vs (k:=?_)|refine ps (k:=?_)|((first|refine st hs (k:=?_)|refine stA hs (k:=?_));intro w hs)|((first|refine al hs (k:=?_)|refine bx hs (k:=?_)|refine bs hs (k:=?_));intro b w hz hs)|refine qRg ?_|refine Nx.h ?_|refine qBo ?_|refine qCt ?_|refine qCf ?_|((with_reducible apply xs_guard);exact rfl;exact rfl;intro c hc;(fail_if_success have:true=c:=hc);(fail_if_success have:false=c:=hc);cases c)|(refine xc_if rfl (fun hc=>?_) (fun hc=>?_))|(refine xc_cond rfl (fun hc=>?_) (fun hc=>?_)))
  (with_reducible apply xs_call); exact rfl; exact rfl; exact rnew_ret ⟨1, 0, 1⟩ 1 3 (by decide) (by decide) (by decide) _
  rw [n1]
  rintro v w' ⟨rfl, ho⟩; replace hs := hs.call0 ho; repeat' (first|refine vs (k:=?_)|refine ps (k:=?_)|((first|refine st hs (k:=?_)|refine stA hs (k:=?_));intro w hs)|((first|refine al hs (k:=?_)|refine bx hs (k:=?_)|refine bs hs (k:=?_));intro b w hz hs)|refine qRg ?_|refine Nx.h ?_|refine qBo ?_|refine qCt ?_|refine qCf ?_|((with_reducible apply xs_guard);exact rfl;exact rfl;intro c hc;(fail_if_success have:true=c:=hc);(fail_if_success have:false=c:=hc);cases c)|(refine xc_if rfl (fun hc=>?_) (fun hc=>?_))|(refine xc_cond rfl (fun hc=>?_) (fun hc=>?_)))
  (with_reducible apply xs_call); exact rfl; exact rfl; exact rserved_ret ⟨⟨⟨1, 0, 1⟩, 1, ⟨3145729, 0, 1⟩⟩, 3, 3, false⟩ [1, 2] _ (by decide) (by decide) (by decide) _ (u64_two (hs.get At.head))
  rw [n2]
  rintro v w' ⟨rfl, ho⟩; replace hs := hs.call0 ho; repeat' (first|refine vs (k:=?_)|refine ps (k:=?_)|((first|refine st hs (k:=?_)|refine stA hs (k:=?_));intro w hs)|((first|refine al hs (k:=?_)|refine bx hs (k:=?_)|refine bs hs (k:=?_));intro b w hz hs)|refine qRg ?_|refine Nx.h ?_|refine qBo ?_|refine qCt ?_|refine qCf ?_|((with_reducible apply xs_guard);exact rfl;exact rfl;intro c hc;(fail_if_success have:true=c:=hc);(fail_if_success have:false=c:=hc);cases c)|(refine xc_if rfl (fun hc=>?_) (fun hc=>?_))|(refine xc_cond rfl (fun hc=>?_) (fun hc=>?_)))
  (with_reducible apply xs_call); exact rfl; exact rfl; exact Awake14_ret _ (tab_only ht (hs.only0 rfl))
  rintro v w' ⟨rfl, ho⟩; replace hs := hs.call0 ho; repeat' (first|refine vs (k:=?_)|refine ps (k:=?_)|((first|refine st hs (k:=?_)|refine stA hs (k:=?_));intro w hs)|((first|refine al hs (k:=?_)|refine bx hs (k:=?_)|refine bs hs (k:=?_));intro b w hz hs)|refine qRg ?_|refine Nx.h ?_|refine qBo ?_|refine qCt ?_|refine qCf ?_|((with_reducible apply xs_guard);exact rfl;exact rfl;intro c hc;(fail_if_success have:true=c:=hc);(fail_if_success have:false=c:=hc);cases c)|(refine xc_if rfl (fun hc=>?_) (fun hc=>?_))|(refine xc_cond rfl (fun hc=>?_) (fun hc=>?_)))
  first | refine rt (hq := ?_) | refine rt' (hq := ?_)
  exact ⟨rfl, hs.only0 rfl⟩
theorem Awake15_ret (w0 : World) (ht : Pows w0) : Ret Tryz.prog 26 #[] w0 fun v w' => v = .bool true ∧ Only [] w0 w' := by
  have hs := St.nil w0
  refine ret_of_xc Tryz.func26 (by kernel_rfl) rfl Tryz.ntmps26 rfl rfl rfl ?_
  repeat' (first|refine vs (k:=?_)|refine ps (k:=?_)|((first|refine st hs (k:=?_)|refine stA hs (k:=?_));intro w hs)|((first|refine al hs (k:=?_)|refine bx hs (k:=?_)|refine bs hs (k:=?_));intro b w hz hs)|refine qRg ?_|refine Nx.h ?_|refine qBo ?_|refine qCt ?_|refine qCf ?_|((with_reducible apply xs_guard);exact rfl;exact rfl;intro c hc;(fail_if_success have:true=c:=hc);(fail_if_success have:false=c:=hc);cases c)|(refine xc_if rfl (fun hc=>?_) (fun hc=>?_))|(refine xc_cond rfl (fun hc=>?_) (fun hc=>?_)))
  (with_reducible apply xs_call); exact rfl; exact rfl; exact awake15_ret _ ht
  rintro v w' ⟨rfl, ho⟩; replace hs := hs.call0 ho; repeat' (first|refine vs (k:=?_)|refine ps (k:=?_)|((first|refine st hs (k:=?_)|refine stA hs (k:=?_));intro w hs)|((first|refine al hs (k:=?_)|refine bx hs (k:=?_)|refine bs hs (k:=?_));intro b w hz hs)|refine qRg ?_|refine Nx.h ?_|refine qBo ?_|refine qCt ?_|refine qCf ?_|((with_reducible apply xs_guard);exact rfl;exact rfl;intro c hc;(fail_if_success have:true=c:=hc);(fail_if_success have:false=c:=hc);cases c)|(refine xc_if rfl (fun hc=>?_) (fun hc=>?_))|(refine xc_cond rfl (fun hc=>?_) (fun hc=>?_)))
  first | refine rt (hq := ?_) | refine rt' (hq := ?_)
  exact ⟨rfl, hs.only0 rfl⟩
end Go.Proofs.YtegoaabjccignaaGreatDoorX

namespace Go.Proofs
open Go.RowKit Go.Maps Go.Sort Go.Shelf
theorem Tryz.sortsA (m : Nat) : AnyZI.SortsIn Tryz.prog Tryz.sortedA_ren Fence.wide m :=
  ⟨fun blk off cap ss W hH hblk hsz => callsIn_wide.2 (AnyM.slices_Sort_int Tryz.sortA blk off cap ss W hH hblk hsz),
   fun p cap W => callsIn_wide.2 (AnyM.slices_Sort_int_none Tryz.sortA p cap W)⟩
end Go.Proofs
namespace Go.Proofs.YtegoaabjccignaaGreatDoorX
open Go Go.RowKit Go.Maps Go.Sort Go.Shelf
theorem keys_calls (b : Nat) (w : World) : Calls Tryz.prog 33 #[.map (some b)] w fun e w' => e = .returned (.func (.func 57) #[] #[.pointer (some ⟨w.heap.size, 0, none⟩)]) ∧ w' = w.alloc (.cells #[.map (some b)] 51) :=
  (callsIn_wide (n := 5)).1 (AnyZI.keys_in Tryz.keysA Fence.wide 5 trivial rfl (some b) w)
set_option maxHeartbeats 1000000 in
theorem sorted_calls {H : Type} (b nn : Nat) (D0 : DataW H) (R : Value → Option (DataW H × List MemPlace)) (w : World) (hown : w.ownsMap Tryz.prog 3 R b nn D0) (hmax : Maps.size D0 ≤ maxLen) (hbytes : Maps.size D0 * 8 ≤ 140737488355328) :
    Calls Tryz.prog 32 #[.func (.func 57) #[] #[.pointer (some ⟨w.heap.size, 0, none⟩)]] (w.alloc (.cells #[.map (some b)] 51)) fun e w' => ∃ (v : Value) (ss : List Int), e = .returned v ∧ ss.Perm (intKeys D0) ∧
      w'.ownsRow (w.heap.size + 1) 3 1 v ss.length ((ss.mergeSort (fun x y => decide (x ≤ y))).map encZ) ∧ (v = .slice none 0 0 ↔ ss = []) ∧ Below (w.heap.size + 1) (w.alloc (.cells #[.map (some b)] 51)) w' := by
  refine (callsIn_wide (n := 5)).1 ?_
  have hbl := hown.lt
  have hseq : SeqGives Fence.wide 2 Tryz.prog 57 #[.pointer (some ⟨w.heap.size, 0, none⟩)] encZ (fun ss => ss.Perm (intKeys D0)) (Maps.size D0) (w.alloc (.cells #[.map (some b)] 51)) :=
    AnyZI.keys_gives (ρ := Tryz.keysA_ren) { Tryz.keysA with } Fence.wide _ trivial rfl (by omega) w.heap.size b nn D0 _ (by simp) (by simp) (by
      obtain ⟨es, clock, hb, Ft, hs, hD⟩ := hown
      exact ⟨es, clock, (Below.heap_alloc _ _ b hbl).trans hb, Ft, hs, hD⟩)
  have cS := AnyZI.sorted_in Tryz.sortedA Fence.wide 5 trivial trivial trivial trivial rfl (by omega) (Tryz.sortsA _) (enters_of Tryz.func56 (by kernel_rfl) rfl) 57 #[.pointer (some ⟨w.heap.size, 0, none⟩)] trivial (enters_of Tryz.func57 (by kernel_rfl) rfl) _ _ hmax hbytes _ hseq
  change CallsIn _ _ Tryz.prog 32 _ _ _ at cS
  refine cS.mono ?_
  rintro e w' ⟨v, ss, rfl, hS, hrow, hnil, hb⟩
  rw [show (w.alloc (.cells #[.map (some b)] 51)).heap.size = w.heap.size + 1 by simp] at hrow hb
  exact ⟨v, ss, rfl, hS, hrow, hnil, hb⟩
end Go.Proofs.YtegoaabjccignaaGreatDoorX

namespace Go.Proofs.YtegoaabjccignaaGreatDoorX
open Go Go.RowKit Go.Maps Go.Sort Go.Shelf
attribute [local irreducible] XS XC XA thenE blockE retE loopE loopS cutB cutN doneE SE
theorem MapAt.perm {w : World} {b c : Nat} {f : Int → Option Value} (h : MapAt w b f c) : ∃ D : DataW Value, w.ownsMap Tryz.prog 3 hld b c D ∧ Maps.size D = c ∧ ∀ ss : List Int, ss.Nodup → (∀ x, x ∈ ss ↔ In64 x ∧ (f x).isSome = true) → ss.Perm (intKeys D) := by
  obtain ⟨D, h1, h2, h3⟩ := h
  refine ⟨D, h1, h2, fun ss hnd hm => ?_⟩
  obtain ⟨es, rfl, hp, _⟩ := h1.entries intK
  obtain ⟨es', he, hk⟩ := h1.keysOf
  cases he
  have hkk : ∀ p ∈ es, ∃ x, p.1 = .int .i64 x ∧ In64 x := fun p hpm => by
    obtain ⟨v, hv⟩ := hk p hpm
    obtain ⟨x, _, e, hw⟩ := Maps.keyOf_i64 (by kernel_rfl) hv
    refine ⟨x, e, ?_⟩
    have e1 : IntKind.i64.min = -9223372036854775808 := rfl
    have e2 : IntKind.i64.max = 9223372036854775807 := rfl
    have hw' : (decide (IntKind.i64.min ≤ x) && decide (x ≤ IntKind.i64.max)) = true := hw
    simp only [Bool.and_eq_true, decide_eq_true_eq, e1, e2] at hw'
    exact ⟨hw'.1, by omega⟩
  refine perm_intKeys hp (fun p hpm => by obtain ⟨x, e, _⟩ := hkk p hpm; exact ⟨x, e⟩) hnd fun x => ?_
  rw [hm x]
  constructor
  · rintro ⟨hi, hs⟩
    exact ((h3 x hi).1).trans hs
  · intro hh
    have hi : In64 x := by
      rw [has_eq, List.any_eq_true] at hh
      obtain ⟨p, hpm, hs⟩ := hh
      obtain ⟨y, e, hy⟩ := hkk p hpm
      rw [e] at hs
      have : y = x := by simpa [Lit.sameKey] using hs
      exact this ▸ hy
    exact ⟨hi, ((h3 x hi).1).symm.trans hh⟩
theorem sort_id {l ss : List Int} (hl : l.Pairwise (· < ·)) (hp : ss.Perm l) : ss.mergeSort (fun x y => decide (x ≤ y)) = l := by
  have h := mergeSort_of_perm_i hp
  unfold leI at h
  rw [h]
  exact List.mergeSort_of_pairwise (hl.imp fun {a b} h => by simpa using Int.le_of_lt h)
def intR (i : Int) : List Value := [.int .i64 i]
theorem flat_int (l : List Int) : (l.map intR).flatten = l.map encZ := by
  induction l with
  | nil => rfl
  | cons a l ih => rw [List.map_cons, List.flatten_cons, ih]; rfl
theorem slv_of_row {w : World} {base e size n : Nat} {v : Value} {xs : List Value} (h : w.ownsRow base e size v n xs) : ∃ G, SlV w e size v n xs G ∧ ∀ k ∈ G, base ≤ k := by
  obtain ⟨h1, h2⟩ := h
  rcases h2 with ⟨rfl, rfl⟩ | ⟨g, cap, cur, rfl, hb, hg, hc, _, hz, ht⟩
  · exact ⟨[], .inl ⟨rfl, rfl, by rw [Nat.zero_mul] at h1; exact List.eq_nil_of_length_eq_zero h1, rfl⟩, by simp⟩
  · exact ⟨[g], .inr ⟨g, cap, cur.toList, rfl, rfl, hc, by simpa using hz, h1, ht, by simpa using hg⟩, by simpa using hb⟩
theorem keys_ret (b : Nat) (w0 : World) : Ret Tryz.prog 33 #[.map (some b)] w0 fun v w' => v = .func (.func 57) #[] #[.pointer (some ⟨w0.heap.size, 0, none⟩)] ∧ w' = w0.alloc (.cells #[.map (some b)] 51) :=
  ret_of_calls (by kernel_rfl) ((keys_calls b w0).mono fun e w' ⟨h1, h2⟩ => ⟨_, h1, rfl, h2⟩)
theorem sorted_ret (b c : Nat) (f : Int → Option Value) (l : List Int) (w0 : World) (h : MapAt w0 b f c) (hc : c ≤ 1000000) (hl : l.Pairwise (· < ·)) (hm : ∀ x, x ∈ l ↔ In64 x ∧ (f x).isSome = true) :
    Ret Tryz.prog 32 #[.func (.func 57) #[] #[.pointer (some ⟨w0.heap.size, 0, none⟩)]] (w0.alloc (.cells #[.map (some b)] 51)) fun v w' => LsAt w' 3 1 v (l.map intR) ∧ l.length = c ∧ Only [] (w0.alloc (.cells #[.map (some b)] 51)) w' := by
  obtain ⟨D, h1, h2, h3⟩ := h.perm
  have hp := h3 l (hl.imp fun {a b} h e => by subst e; exact Int.lt_irrefl _ h) hm
  have hml : maxLen = 9223372036854775807 := rfl
  refine ret_of_calls (by kernel_rfl) ((sorted_calls b c D hld w0 h1 (by omega) (by omega)).mono fun e w' ⟨v, ss, he, hS, hrow, _, hb⟩ => ⟨v, he, ?_, ?_, ?_⟩)
  · have e1 := sort_id hl (hS.trans hp.symm)
    have e2 : ss.length = l.length := (hS.trans hp.symm).length_eq
    rw [e1, e2] at hrow
    obtain ⟨G, hG, _⟩ := slv_of_row hrow
    exact hG.ls (flat_int l).symm (by simp) (fun x hx => by obtain ⟨i, _, rfl⟩ := List.mem_map.1 hx; rfl)
  · rw [hp.length_eq, ← h2]
    obtain ⟨es, rfl, _⟩ := h1.entries intK
    simp [intKeys, Maps.size_eq]
  · refine Only.of_below (by simpa using hb)
end Go.Proofs.YtegoaabjccignaaGreatDoorX

namespace Go.Proofs.YtegoaabjccignaaGreatDoorX
open Go Go.RowKit
open IB (IT ITsAt flatT)
attribute [local irreducible] XS XC XA thenE blockE retE loopE loopS cutB cutN doneE SE
structure Ss where
  q : Qs
  l : List RT
abbrev setO (qb mb : Nat) : Obj := .cells #[.pointer (some ⟨qb, 0, none⟩), .map (some mb)] 53 (0, 0)
def SAt (w : World) (sb : Nat) (s : Ss) (F : List Nat) : Prop :=
  ∃ qb mb Fq, F = sb :: mb :: Fq ∧ w.heap[sb]? = some (setO qb mb) ∧ MapAt w mb (rvals s.l) s.l.length ∧ QAt w qb s.q Fq ∧ mb ∉ Fq ∧ OrdR s.l
theorem SAt.keepD {w w' : World} {sb : Nat} {s : Ss} {F G : List Nat} (h : SAt w sb s F) (ho : Only G w w') (hd : ∀ k ∈ F, k ∉ G) : SAt w' sb s F := by
  obtain ⟨qb, mb, Fq, rfl, h1, h2, h3, h4⟩ := h
  exact ⟨qb, mb, Fq, rfl, ho.block h1 (hd sb (by simp)), h2.keep ho (hd mb (by simp)), h3.keepD ho (fun k hk => hd k (by simp [hk])), h4⟩
theorem SAt.only {w w' : World} {sb : Nat} {s : Ss} {F : List Nat} (h : SAt w sb s F) (ho : Only [] w w') : SAt w' sb s F := h.keepD ho (by simp)
theorem SAt.lt {w : World} {sb : Nat} {s : Ss} {F : List Nat} (h : SAt w sb s F) : ∀ k ∈ F, k < w.heap.size := by
  obtain ⟨qb, mb, Fq, rfl, h1, h2, h3, h4⟩ := h
  intro k hk
  simp only [List.mem_cons] at hk
  rcases hk with rfl | rfl | hk
  · exact lt_of_block h1
  · exact h2.lt
  · exact h3.lt k hk
def okS : Obj → Bool
  | .cells _ ty _ => !(Nat.beq ty 147) && !(Nat.beq ty 140) && !(Nat.beq ty 83) && !(Nat.beq ty 53)
  | _ => false
theorem SAt.not {w : World} {sb : Nat} {s : Ss} {F : List Nat} (h : SAt w sb s F) {b : Nat} {cs : Array Value} {ty : Nat} {fz : Nat × Nat} (hb : w.heap[b]? = some (.cells cs ty fz)) (ho : okS (.cells cs ty fz) = true) : b ∉ F := fun hm => by
  obtain ⟨qb, mb, Fq, rfl, k1, k2, k3, k4⟩ := h
  simp only [okS, Bool.and_eq_true, Bool.not_eq_true'] at ho
  simp only [List.mem_cons] at hm
  rcases hm with rfl | rfl | hm
  · exact blocks_ne hb k1 (fun e => by rw [e] at ho; exact absurd ho.2 (by decide)) rfl
  · exact k2.ne hb rfl
  · exact k3.not hb (fun e => by rw [e] at ho; exact absurd ho.1.1.1 (by decide)) (fun e => by rw [e] at ho; exact absurd ho.1.1.2 (by decide)) (fun e => by rw [e] at ho; exact absurd ho.1.2 (by decide)) hm
theorem SAt.apart {wb w : World} {D : Ctx} {H : List Ent} {sb : Nat} {s : Ss} {F : List Nat} (h : SAt w sb s F) (hs : St wb D H w) (hH : (H.all fun e => okS e.2.1) = true) : ∀ k ∈ F, k ∉ H.map (·.1) := fun k hk hm => by
  obtain ⟨e, he, rfl⟩ := List.mem_map.1 hm
  have h1 := List.all_eq_true.1 hH e he
  have h2 := hs.at_ e he
  cases ho : e.2.1 with
  | cells cs ty fz => rw [ho] at h1 h2; exact h.not h2 h1 hk
  | _ => rw [ho] at h1; cases h1
def newS (c : Int) : Ss := ⟨newQ c, []⟩
theorem snew_ret (c : Int) (hc : U64 c) (w0 : World) : Ret Tryz.prog 10 #[.int .u64 c] w0 fun v w' => (∃ sb F, v = .pointer (some ⟨sb, 0, none⟩) ∧ SAt w' sb (newS c) F ∧ ∀ k ∈ F, w0.heap.size ≤ k) ∧ Only [] w0 w' := by
  have hs := St.nil w0
  refine ret_of_xc Tryz.func10 (by kernel_rfl) rfl Tryz.ntmps10 rfl rfl rfl ?_
  repeat' (first|refine vs (k:=?_)|refine ps (k:=?_)|((first|refine st hs (k:=?_)|refine stA hs (k:=?_));intro w hs)|((first|refine al hs (k:=?_)|refine bx hs (k:=?_)|refine bs hs (k:=?_));intro b w hz hs)|refine qRg ?_|refine Nx.h ?_|refine qBo ?_|refine qCt ?_|refine qCf ?_|((with_reducible apply xs_guard);exact rfl;exact rfl;intro c hc;(fail_if_success have:true=c:=hc);(fail_if_success have:false=c:=hc);cases c)|(refine xc_if rfl (fun hc=>?_) (fun hc=>?_))|(refine xc_cond rfl (fun hc=>?_) (fun hc=>?_)))
  (with_reducible apply xs_call); exact rfl; exact rfl; exact qnew_ret c hc _
  rintro v w1 ⟨⟨qb, Fq, rfl, hQ, hFq⟩, ho⟩; replace hs := hs.call0 ho
  have ho1 := hs.only0 rfl
  have hz1 := ho1.size
  refine xs_mapNew (k := ?_)
  intro mb w2 ho2 hM hmb
  clear hs
  have hs := St.nil w2
  refine vs (k := ?_)
  refine bx hs (k := ?_); intro sb w3 hz hs
  have hsb := hs.new (sb, true) (by simp) rfl
  simp only at hsb
  have hz2 := ho2.size
  have hM3 := hM.keep (hs.only0 rfl) (by simp)
  have hlQ := hQ.lt
  have hQ3 := (hQ.only ho2).only (hs.only0 rfl)
  have hq3 := hs.get At.head
  have ho3 := (ho1.trans ho2).trans (hs.only0 rfl)
  have hA : SAt w3 sb (newS c) (sb :: mb :: Fq) := ⟨qb, mb, Fq, rfl, hq3, hM3, hQ3, fun hm => by have := hlQ mb hm; omega, List.Pairwise.nil⟩
  have hnew : ∀ k ∈ sb :: mb :: Fq, w0.heap.size ≤ k := fun k hk => by
    simp only [List.mem_cons] at hk
    rcases hk with rfl | rfl | hk
    · omega
    · omega
    · have := hFq k hk; omega
  repeat' (first|refine vs (k:=?_)|refine ps (k:=?_)|((first|refine st hs (k:=?_)|refine stA hs (k:=?_));intro w hs)|((first|refine al hs (k:=?_)|refine bx hs (k:=?_)|refine bs hs (k:=?_));intro b w hz hs)|refine qRg ?_|refine Nx.h ?_|refine qBo ?_|refine qCt ?_|refine qCf ?_|((with_reducible apply xs_guard);exact rfl;exact rfl;intro c hc;(fail_if_success have:true=c:=hc);(fail_if_success have:false=c:=hc);cases c)|(refine xc_if rfl (fun hc=>?_) (fun hc=>?_))|(refine xc_cond rfl (fun hc=>?_) (fun hc=>?_)))
  first | refine rt (hq := ?_) | refine rt' (hq := ?_)
  exact ⟨⟨sb, _, rfl, hA, hnew⟩, ho3⟩
end Go.Proofs.YtegoaabjccignaaGreatDoorX

namespace Go.Proofs.YtegoaabjccignaaGreatDoorX
open Go Go.RowKit
open IB (IT ITsAt flatT)
attribute [local irreducible] XS XC XA thenE blockE retE loopE loopS cutB cutN doneE SE
abbrev rqO (r : Rq) : Obj := .cells r.cells.toArray 36 (0, 0)
def layE (r : Rq) (E : Int) : Int := bif r.right then E else 2
def layS (s : Ss) (r : RT) (E : Int) (q' : Qs) : Ss := bif r.1.right then ⟨q', bif decide (E = 0) then putR r s.l else s.l⟩ else s
set_option maxHeartbeats 4000000 in
theorem slay_ret (g sb : Nat) (s : Ss) (F : List Nat) (r : RT) (E : Int) (q' : Qs) (w0 : World) (h : SAt w0 sb s F) (hn : s.l.length < 1000000)
    (hg : ∀ qb Fq w, QAt w qb s.q Fq → r.1.right = true → Ret Tryz.prog g #[.pointer (some ⟨qb, 0, none⟩), rv r.1] w fun v w' => v = .int .i64 E ∧ ∃ F', QAt w' qb q' F' ∧ (∀ k ∈ F', k ∈ Fq ∨ w.heap.size ≤ k) ∧ Only Fq w w') :
    Ret Tryz.prog 27 #[.pointer (some ⟨sb, 0, none⟩), rv r.1, .func (.func g) #[] #[]] w0 fun v w' => v = .int .i64 (layE r.1 E) ∧ ∃ F', SAt w' sb (layS s r E q') F' ∧ (∀ k ∈ F', k ∈ F ∨ w0.heap.size ≤ k) ∧ Only F w0 w' := by
  have hS := h
  obtain ⟨qb, mb, Fq, rfl, h1, h2, h3, h4, h5⟩ := h
  have hs := (St.nil w0).track h1 (by simp)
  have hlt := hS.lt
  have same : ∀ w', Only [] w0 w' → ∃ F', SAt w' sb s F' ∧ (∀ k ∈ F', k ∈ sb :: mb :: Fq ∨ w0.heap.size ≤ k) ∧ Only (sb :: mb :: Fq) w0 w' := fun w' ho => ⟨_, hS.only ho, fun k hk => .inl hk, ho.weaken (by simp)⟩
  refine ret_of_xc Tryz.func27 (by kernel_rfl) rfl Tryz.ntmps27 rfl rfl rfl ?_
  refine xc_seq ?_
  refine xc_region ?_ ?_; exact rfl
  refine bx hs (k := ?_); intro bq wq hzq hs
  have hbq := hs.new (bq, true) (by simp) rfl
  simp only at hbq
  repeat' (first|refine vs (k:=?_)|refine ps (k:=?_)|((first|refine st hs (k:=?_)|refine stA hs (k:=?_));intro w hs)|((first|refine al hs (k:=?_)|refine bx hs (k:=?_)|refine bs hs (k:=?_));intro b w hz hs)|refine qRg ?_|refine Nx.h ?_|refine qBo ?_|refine qCt ?_|refine qCf ?_|((with_reducible apply xs_guard);exact rfl;exact rfl;intro c hc;(fail_if_success have:true=c:=hc);(fail_if_success have:false=c:=hc);cases c)|(refine xc_if rfl (fun hc=>?_) (fun hc=>?_))|(refine xc_cond rfl (fun hc=>?_) (fun hc=>?_)))
  (with_reducible apply xs_call); exact rfl; exact rfl; exact rright_ret r.1 r.2 _
  generalize hr : r.1.right = rr
  cases rr
  · rintro v w' ⟨rfl, ho⟩; replace hs := hs.call0 ho; repeat' (first|refine vs (k:=?_)|refine ps (k:=?_)|((first|refine st hs (k:=?_)|refine stA hs (k:=?_));intro w hs)|((first|refine al hs (k:=?_)|refine bx hs (k:=?_)|refine bs hs (k:=?_));intro b w hz hs)|refine qRg ?_|refine Nx.h ?_|refine qBo ?_|refine qCt ?_|refine qCf ?_|((with_reducible apply xs_guard);exact rfl;exact rfl;intro c hc;(fail_if_success have:true=c:=hc);(fail_if_success have:false=c:=hc);cases c)|(refine xc_if rfl (fun hc=>?_) (fun hc=>?_))|(refine xc_cond rfl (fun hc=>?_) (fun hc=>?_)))
    first | refine rt (hq := ?_) | refine rt' (hq := ?_)
    refine ⟨by unfold layE; rw [hr]; rfl, ?_⟩
    unfold layS; rw [hr]
    exact same _ (hs.onlyF [] (by simp [h1]) (by simp [D0]))
  · rintro v w' ⟨rfl, ho⟩; replace hs := hs.call0 ho; repeat' (first|refine vs (k:=?_)|refine ps (k:=?_)|((first|refine st hs (k:=?_)|refine stA hs (k:=?_));intro w hs)|((first|refine al hs (k:=?_)|refine bx hs (k:=?_)|refine bs hs (k:=?_));intro b w hz hs)|refine qRg ?_|refine Nx.h ?_|refine qBo ?_|refine qCt ?_|refine qCf ?_|((with_reducible apply xs_guard);exact rfl;exact rfl;intro c hc;(fail_if_success have:true=c:=hc);(fail_if_success have:false=c:=hc);cases c)|(refine xc_if rfl (fun hc=>?_) (fun hc=>?_))|(refine xc_cond rfl (fun hc=>?_) (fun hc=>?_)))
    have hno : ∀ k ∈ Fq, k ∉ [bq, sb] := fun k hk hm => by
      have hl := hlt k (by simp [hk])
      simp only [List.mem_cons, List.not_mem_nil, or_false] at hm
      rcases hm with rfl | rfl
      · omega
      · exact h3.not h1 (by decide) (by decide) (by decide) hk
    refine dr [] hs (k := ?_); intro hX w hs
    refine tk 0 hX (k := ?_)
    refine tk 1 hX (k := ?_)
    refine tk 2 hX (k := ?_)
    refine tk 3 hX (k := ?_)
    refine tk 4 hX (k := ?_)
    refine tk 5 hX (k := ?_)
    refine dt 6 hX (k := ?_)
    have ho1 := hs.onlyF [] (by simp [h1]) (by simp [D0])
    have hsz := hs.size
    (with_reducible apply xs_call); exact rfl; exact rfl; exact hg qb Fq _ (h3.only ho1) hr
    rintro v w2 ⟨rfl, F', hQ, hF', ho2⟩
    replace hs := hs.call ho2 hno (by simp [D0])
    have hM := (h2.keep ho1 (by simp)).keep ho2 h4
    have hmF : mb ∉ F' := fun hm => by
      have := hlt mb (by simp)
      rcases hF' mb hm with h | h
      · exact h4 h
      · omega
    have hF2 : ∀ k ∈ sb :: mb :: F', k ∈ sb :: mb :: Fq ∨ w0.heap.size ≤ k := fun k hk => by
      simp only [List.mem_cons] at hk ⊢
      rcases hk with rfl | rfl | hk
      · simp
      · simp
      · rcases hF' k hk with h | h
        · simp [h]
        · exact .inr (by omega)
    repeat' (first|refine vs (k:=?_)|refine ps (k:=?_)|((first|refine st hs (k:=?_)|refine stA hs (k:=?_));intro w hs)|((first|refine al hs (k:=?_)|refine bx hs (k:=?_)|refine bs hs (k:=?_));intro b w hz hs)|refine qRg ?_|refine Nx.h ?_|refine qBo ?_|refine qCt ?_|refine qCf ?_|((with_reducible apply xs_guard);exact rfl;exact rfl;intro c hc;(fail_if_success have:true=c:=hc);(fail_if_success have:false=c:=hc);cases c)|(refine xc_if rfl (fun hc=>?_) (fun hc=>?_))|(refine xc_cond rfl (fun hc=>?_) (fun hc=>?_)))
    refine dn (k := ?_)
    refine tk 7 hX (k := ?_)
    refine en (k := ?_)
    have hoA : Only (sb :: mb :: Fq) w0 w2 := hs.only.weaken (by simp [olds, D0]; exact fun a h => .inr (.inr h))
    have hsb2 := hs.get (At.tail At.head)
    have hbb2 := hs.get At.head
    have nbs : bq ≠ sb := by have := hlt sb (by simp); omega
    clear hs
    have hs := ((St.nil w2).track hsb2 (by simp)).track hbb2 (by simpa using nbs)
    repeat' (first|refine vs (k:=?_)|refine ps (k:=?_)|((first|refine st hs (k:=?_)|refine stA hs (k:=?_));intro w hs)|((first|refine al hs (k:=?_)|refine bx hs (k:=?_)|refine bs hs (k:=?_));intro b w hz hs)|refine qRg ?_|refine Nx.h ?_|refine qBo ?_|refine qCt ?_|refine qCf ?_|((with_reducible apply xs_guard);exact rfl;exact rfl;intro c hc;(fail_if_success have:true=c:=hc);(fail_if_success have:false=c:=hc);cases c)|(refine xc_if rfl (fun hc=>?_) (fun hc=>?_))|(refine xc_cond rfl (fun hc=>?_) (fun hc=>?_)))
    · have hE : E = 0 := by assumption
      have nb : mb ≠ bq := by have := hlt mb (by simp); omega
      have ns : mb ≠ sb := fun e => (hM.ne (hs.get (At.tail At.head))) e.symm
      refine dr [] hs (k := ?_); intro hX w hs
      refine tk 0 hX (k := ?_)
      refine tk 1 hX (k := ?_)
      refine tk 2 hX (k := ?_)
      refine tk 3 hX (k := ?_)
      refine tk 4 hX (k := ?_)
      refine tk 5 hX (k := ?_)
      refine tk 6 hX (k := ?_)
      refine tk 7 hX (k := ?_)
      refine dt 8 hX (k := ?_)
      have ho3 := hs.onlyF [] (by simp [hsb2, hbb2]) (by simp [D0])
      refine xs_mapPut (e := 36) (i := idR r) (v := rv r.1) (hM.keep ho3 (by simp)) r.2.1.2.1 (by have : maxLen = 9223372036854775807 := rfl; omega) (by kernel_rfl) (k := ?_)
      intro w3 hM3 ho4
      replace hs := hs.call ho4 (fun k hk hm => by
        obtain rfl := List.mem_singleton.1 hk
        simp only [List.map_cons, List.map_nil, List.mem_cons, List.not_mem_nil, or_false] at hm
        rcases hm with hm | hm
        · exact nb hm
        · exact ns hm) (by simp [D0])
      rw [rvals_put, rvals_some, ← len_put h5] at hM3
      have hQ3 := (hQ.only ho3).keepD ho4 (fun k hk hm => by obtain rfl := List.mem_singleton.1 hm; exact hmF hk)
      repeat' (first|refine vs (k:=?_)|refine ps (k:=?_)|((first|refine st hs (k:=?_)|refine stA hs (k:=?_));intro w hs)|((first|refine al hs (k:=?_)|refine bx hs (k:=?_)|refine bs hs (k:=?_));intro b w hz hs)|refine qRg ?_|refine Nx.h ?_|refine qBo ?_|refine qCt ?_|refine qCf ?_|((with_reducible apply xs_guard);exact rfl;exact rfl;intro c hc;(fail_if_success have:true=c:=hc);(fail_if_success have:false=c:=hc);cases c)|(refine xc_if rfl (fun hc=>?_) (fun hc=>?_))|(refine xc_cond rfl (fun hc=>?_) (fun hc=>?_)))
      refine dn (k := ?_)
      refine en (k := ?_)
      repeat' (first|refine vs (k:=?_)|refine ps (k:=?_)|((first|refine st hs (k:=?_)|refine stA hs (k:=?_));intro w hs)|((first|refine al hs (k:=?_)|refine bx hs (k:=?_)|refine bs hs (k:=?_));intro b w hz hs)|refine qRg ?_|refine Nx.h ?_|refine qBo ?_|refine qCt ?_|refine qCf ?_|((with_reducible apply xs_guard);exact rfl;exact rfl;intro c hc;(fail_if_success have:true=c:=hc);(fail_if_success have:false=c:=hc);cases c)|(refine xc_if rfl (fun hc=>?_) (fun hc=>?_))|(refine xc_cond rfl (fun hc=>?_) (fun hc=>?_)))
      first | refine rt (hq := ?_) | refine rt' (hq := ?_)
      have ee : layS s r E q' = ⟨q', putR r s.l⟩ := by unfold layS; rw [hr, decide_eq_true hE]; rfl
      refine ⟨by unfold layE; rw [hr]; rfl, ?_⟩
      rw [ee]
      exact ⟨_, ⟨qb, mb, F', rfl, hs.get (At.tail At.head), hM3, hQ3, hmF, ord_put h5⟩, hF2, (hoA.step ho3 (by simp)).step ho4 (by simp)⟩
    · have hE : ¬ E = 0 := by assumption
      first | refine rt (hq := ?_) | refine rt' (hq := ?_)
      have ee : layS s r E q' = ⟨q', s.l⟩ := by unfold layS; rw [hr, decide_eq_false hE]; rfl
      refine ⟨by unfold layE; rw [hr]; rfl, ?_⟩
      rw [ee]
      exact ⟨_, ⟨qb, mb, F', rfl, hs.get (At.tail At.head), hM, hQ, hmF, h5⟩, hF2, hoA⟩
end Go.Proofs.YtegoaabjccignaaGreatDoorX

namespace Go.Proofs.YtegoaabjccignaaGreatDoorX
open Go Go.RowKit
open IB (IT ITsAt flatT)
attribute [local irreducible] XS XC XA thenE blockE retE loopE loopS cutB cutN doneE SE
def itR (r : RT) : IT := ⟨r.1.i, r.2.1⟩
theorem enter1_ret (qb : Nat) (s : Qs) (F : List Nat) (r : RT) (w0 : World) (h : QAt w0 qb s F) (hlen : s.t.list.length + 1 ≤ 1000000) (hn : s.n < 1000000) :
    Ret Tryz.prog 28 #[.pointer (some ⟨qb, 0, none⟩), rv r.1] w0 fun v w' => v = .int .i64 (joinE s (itR r)) ∧ ∃ F', QAt w' qb (joinQ s (itR r)) F' ∧ (∀ k ∈ F', k ∈ F ∨ w0.heap.size ≤ k) ∧ Only F w0 w' := by
  have hs := St.nil w0
  refine ret_of_xc Tryz.func28 (by kernel_rfl) rfl Tryz.ntmps28 rfl rfl rfl ?_
  repeat' (first|refine vs (k:=?_)|refine ps (k:=?_)|((first|refine st hs (k:=?_)|refine stA hs (k:=?_));intro w hs)|((first|refine al hs (k:=?_)|refine bx hs (k:=?_)|refine bs hs (k:=?_));intro b w hz hs)|refine qRg ?_|refine Nx.h ?_|refine qBo ?_|refine qCt ?_|refine qCf ?_|((with_reducible apply xs_guard);exact rfl;exact rfl;intro c hc;(fail_if_success have:true=c:=hc);(fail_if_success have:false=c:=hc);cases c)|(refine xc_if rfl (fun hc=>?_) (fun hc=>?_))|(refine xc_cond rfl (fun hc=>?_) (fun hc=>?_)))
  have ho := hs.only0 rfl
  (with_reducible apply xs_call); exact rfl; exact rfl; exact qjoin_ret qb s F (itR r) _ (h.only ho) hlen hn
  rintro v w1 ⟨rfl, F', hA, hF', ho1⟩
  have hz := ho.size
  clear hs
  have hs := St.nil w1
  repeat' (first|refine vs (k:=?_)|refine ps (k:=?_)|((first|refine st hs (k:=?_)|refine stA hs (k:=?_));intro w hs)|((first|refine al hs (k:=?_)|refine bx hs (k:=?_)|refine bs hs (k:=?_));intro b w hz hs)|refine qRg ?_|refine Nx.h ?_|refine qBo ?_|refine qCt ?_|refine qCf ?_|((with_reducible apply xs_guard);exact rfl;exact rfl;intro c hc;(fail_if_success have:true=c:=hc);(fail_if_success have:false=c:=hc);cases c)|(refine xc_if rfl (fun hc=>?_) (fun hc=>?_))|(refine xc_cond rfl (fun hc=>?_) (fun hc=>?_)))
  first | refine rt (hq := ?_) | refine rt' (hq := ?_)
  exact ⟨rfl, F', hA.only (hs.only0 rfl), fun k hk => by rcases hF' k hk with h | h; exact .inl h; exact .inr (by omega), ((ho.weaken (by simp)).step ho1 (fun k hk => .inl hk)).step (hs.only0 rfl) (by simp)⟩
def enterE (s : Ss) (r : RT) : Int := layE r.1 (joinE s.q (itR r))
def enterS (s : Ss) (r : RT) : Ss := layS s r (joinE s.q (itR r)) (joinQ s.q (itR r))
theorem enter_ret (sb : Nat) (s : Ss) (F : List Nat) (r : RT) (w0 : World) (h : SAt w0 sb s F) (hl : s.l.length < 1000000) (hlen : s.q.t.list.length + 1 ≤ 1000000) (hn : s.q.n < 1000000) :
    Ret Tryz.prog 12 #[.pointer (some ⟨sb, 0, none⟩), rv r.1] w0 fun v w' => v = .int .i64 (enterE s r) ∧ ∃ F', SAt w' sb (enterS s r) F' ∧ (∀ k ∈ F', k ∈ F ∨ w0.heap.size ≤ k) ∧ Only F w0 w' := by
  have hs := St.nil w0
  refine ret_of_xc Tryz.func12 (by kernel_rfl) rfl Tryz.ntmps12 rfl rfl rfl ?_
  repeat' (first|refine vs (k:=?_)|refine ps (k:=?_)|((first|refine st hs (k:=?_)|refine stA hs (k:=?_));intro w hs)|((first|refine al hs (k:=?_)|refine bx hs (k:=?_)|refine bs hs (k:=?_));intro b w hz hs)|refine qRg ?_|refine Nx.h ?_|refine qBo ?_|refine qCt ?_|refine qCf ?_|((with_reducible apply xs_guard);exact rfl;exact rfl;intro c hc;(fail_if_success have:true=c:=hc);(fail_if_success have:false=c:=hc);cases c)|(refine xc_if rfl (fun hc=>?_) (fun hc=>?_))|(refine xc_cond rfl (fun hc=>?_) (fun hc=>?_)))
  have ho := hs.only0 rfl
  (with_reducible apply xs_call); exact rfl; exact rfl; exact slay_ret 28 sb s F r (joinE s.q (itR r)) (joinQ s.q (itR r)) _ (h.only ho) hl (fun qb Fq w hq _ => enter1_ret qb s.q Fq r w hq hlen hn)
  rintro v w1 ⟨rfl, F', hA, hF', ho1⟩
  have hz := ho.size
  clear hs
  have hs := St.nil w1
  repeat' (first|refine vs (k:=?_)|refine ps (k:=?_)|((first|refine st hs (k:=?_)|refine stA hs (k:=?_));intro w hs)|((first|refine al hs (k:=?_)|refine bx hs (k:=?_)|refine bs hs (k:=?_));intro b w hz hs)|refine qRg ?_|refine Nx.h ?_|refine qBo ?_|refine qCt ?_|refine qCf ?_|((with_reducible apply xs_guard);exact rfl;exact rfl;intro c hc;(fail_if_success have:true=c:=hc);(fail_if_success have:false=c:=hc);cases c)|(refine xc_if rfl (fun hc=>?_) (fun hc=>?_))|(refine xc_cond rfl (fun hc=>?_) (fun hc=>?_)))
  first | refine rt (hq := ?_) | refine rt' (hq := ?_)
  exact ⟨rfl, F', hA.only (hs.only0 rfl), fun k hk => by rcases hF' k hk with h | h; exact .inl h; exact .inr (by omega), ((ho.weaken (by simp)).step ho1 (fun k hk => .inl hk)).step (hs.only0 rfl) (by simp)⟩
theorem put_wrong (sb : Nat) (s : Ss) (F : List Nat) (r : RT) (w0 : World) (h : SAt w0 sb s F) (hl : s.l.length < 1000000) (hr : r.1.right = false) :
    Ret Tryz.prog 13 #[.pointer (some ⟨sb, 0, none⟩), rv r.1] w0 fun v w' => v = .int .i64 2 ∧ ∃ F', SAt w' sb s F' ∧ (∀ k ∈ F', k ∈ F ∨ w0.heap.size ≤ k) ∧ Only F w0 w' := by
  have hs := St.nil w0
  refine ret_of_xc Tryz.func13 (by kernel_rfl) rfl Tryz.ntmps13 rfl rfl rfl ?_
  repeat' (first|refine vs (k:=?_)|refine ps (k:=?_)|((first|refine st hs (k:=?_)|refine stA hs (k:=?_));intro w hs)|((first|refine al hs (k:=?_)|refine bx hs (k:=?_)|refine bs hs (k:=?_));intro b w hz hs)|refine qRg ?_|refine Nx.h ?_|refine qBo ?_|refine qCt ?_|refine qCf ?_|((with_reducible apply xs_guard);exact rfl;exact rfl;intro c hc;(fail_if_success have:true=c:=hc);(fail_if_success have:false=c:=hc);cases c)|(refine xc_if rfl (fun hc=>?_) (fun hc=>?_))|(refine xc_cond rfl (fun hc=>?_) (fun hc=>?_)))
  have ho := hs.only0 rfl
  (with_reducible apply xs_call); exact rfl; exact rfl; exact slay_ret 30 sb s F r 0 s.q _ (h.only ho) hl (fun qb Fq w hq e => by rw [hr] at e; cases e)
  rw [show layE r.1 0 = 2 by unfold layE; rw [hr]; rfl, show layS s r 0 s.q = s by unfold layS; rw [hr]; rfl]
  rintro v w1 ⟨rfl, F', hA, hF', ho1⟩
  have hz := ho.size
  clear hs
  have hs := St.nil w1
  repeat' (first|refine vs (k:=?_)|refine ps (k:=?_)|((first|refine st hs (k:=?_)|refine stA hs (k:=?_));intro w hs)|((first|refine al hs (k:=?_)|refine bx hs (k:=?_)|refine bs hs (k:=?_));intro b w hz hs)|refine qRg ?_|refine Nx.h ?_|refine qBo ?_|refine qCt ?_|refine qCf ?_|((with_reducible apply xs_guard);exact rfl;exact rfl;intro c hc;(fail_if_success have:true=c:=hc);(fail_if_success have:false=c:=hc);cases c)|(refine xc_if rfl (fun hc=>?_) (fun hc=>?_))|(refine xc_cond rfl (fun hc=>?_) (fun hc=>?_)))
  first | refine rt (hq := ?_) | refine rt' (hq := ?_)
  exact ⟨rfl, F', hA.only (hs.only0 rfl), fun k hk => by rcases hF' k hk with h | h; exact .inl h; exact .inr (by omega), ((ho.weaken (by simp)).step ho1 (fun k hk => .inl hk)).step (hs.only0 rfl) (by simp)⟩
theorem lay_nil (g : Nat) (r : Rq) (w0 : World) : Ret Tryz.prog 27 #[.pointer none, rv r, .func (.func g) #[] #[]] w0 fun v w' => v = .int .i64 1 ∧ Only [] w0 w' := by
  have hs := St.nil w0
  refine ret_of_xc Tryz.func27 (by kernel_rfl) rfl Tryz.ntmps27 rfl rfl rfl ?_
  repeat' (first|refine vs (k:=?_)|refine ps (k:=?_)|((first|refine st hs (k:=?_)|refine stA hs (k:=?_));intro w hs)|((first|refine al hs (k:=?_)|refine bx hs (k:=?_)|refine bs hs (k:=?_));intro b w hz hs)|refine qRg ?_|refine Nx.h ?_|refine qBo ?_|refine qCt ?_|refine qCf ?_|((with_reducible apply xs_guard);exact rfl;exact rfl;intro c hc;(fail_if_success have:true=c:=hc);(fail_if_success have:false=c:=hc);cases c)|(refine xc_if rfl (fun hc=>?_) (fun hc=>?_))|(refine xc_cond rfl (fun hc=>?_) (fun hc=>?_)))
  first | refine rt (hq := ?_) | refine rt' (hq := ?_)
  exact ⟨rfl, hs.only0 rfl⟩
theorem enter_nil (r : Rq) (w0 : World) : Ret Tryz.prog 12 #[.pointer none, rv r] w0 fun v w' => v = .int .i64 1 ∧ Only [] w0 w' := by
  have hs := St.nil w0
  refine ret_of_xc Tryz.func12 (by kernel_rfl) rfl Tryz.ntmps12 rfl rfl rfl ?_
  repeat' (first|refine vs (k:=?_)|refine ps (k:=?_)|((first|refine st hs (k:=?_)|refine stA hs (k:=?_));intro w hs)|((first|refine al hs (k:=?_)|refine bx hs (k:=?_)|refine bs hs (k:=?_));intro b w hz hs)|refine qRg ?_|refine Nx.h ?_|refine qBo ?_|refine qCt ?_|refine qCf ?_|((with_reducible apply xs_guard);exact rfl;exact rfl;intro c hc;(fail_if_success have:true=c:=hc);(fail_if_success have:false=c:=hc);cases c)|(refine xc_if rfl (fun hc=>?_) (fun hc=>?_))|(refine xc_cond rfl (fun hc=>?_) (fun hc=>?_)))
  (with_reducible apply xs_call); exact rfl; exact rfl; exact lay_nil 28 r _
  rintro v w' ⟨rfl, ho⟩; replace hs := hs.call0 ho; repeat' (first|refine vs (k:=?_)|refine ps (k:=?_)|((first|refine st hs (k:=?_)|refine stA hs (k:=?_));intro w hs)|((first|refine al hs (k:=?_)|refine bx hs (k:=?_)|refine bs hs (k:=?_));intro b w hz hs)|refine qRg ?_|refine Nx.h ?_|refine qBo ?_|refine qCt ?_|refine qCf ?_|((with_reducible apply xs_guard);exact rfl;exact rfl;intro c hc;(fail_if_success have:true=c:=hc);(fail_if_success have:false=c:=hc);cases c)|(refine xc_if rfl (fun hc=>?_) (fun hc=>?_))|(refine xc_cond rfl (fun hc=>?_) (fun hc=>?_)))
  first | refine rt (hq := ?_) | refine rt' (hq := ?_)
  exact ⟨rfl, hs.only0 rfl⟩
theorem put_nil (r : Rq) (w0 : World) : Ret Tryz.prog 13 #[.pointer none, rv r] w0 fun v w' => v = .int .i64 1 ∧ Only [] w0 w' := by
  have hs := St.nil w0
  refine ret_of_xc Tryz.func13 (by kernel_rfl) rfl Tryz.ntmps13 rfl rfl rfl ?_
  repeat' (first|refine vs (k:=?_)|refine ps (k:=?_)|((first|refine st hs (k:=?_)|refine stA hs (k:=?_));intro w hs)|((first|refine al hs (k:=?_)|refine bx hs (k:=?_)|refine bs hs (k:=?_));intro b w hz hs)|refine qRg ?_|refine Nx.h ?_|refine qBo ?_|refine qCt ?_|refine qCf ?_|((with_reducible apply xs_guard);exact rfl;exact rfl;intro c hc;(fail_if_success have:true=c:=hc);(fail_if_success have:false=c:=hc);cases c)|(refine xc_if rfl (fun hc=>?_) (fun hc=>?_))|(refine xc_cond rfl (fun hc=>?_) (fun hc=>?_)))
  (with_reducible apply xs_call); exact rfl; exact rfl; exact lay_nil 30 r _
  rintro v w' ⟨rfl, ho⟩; replace hs := hs.call0 ho; repeat' (first|refine vs (k:=?_)|refine ps (k:=?_)|((first|refine st hs (k:=?_)|refine stA hs (k:=?_));intro w hs)|((first|refine al hs (k:=?_)|refine bx hs (k:=?_)|refine bs hs (k:=?_));intro b w hz hs)|refine qRg ?_|refine Nx.h ?_|refine qBo ?_|refine qCt ?_|refine qCf ?_|((with_reducible apply xs_guard);exact rfl;exact rfl;intro c hc;(fail_if_success have:true=c:=hc);(fail_if_success have:false=c:=hc);cases c)|(refine xc_if rfl (fun hc=>?_) (fun hc=>?_))|(refine xc_cond rfl (fun hc=>?_) (fun hc=>?_)))
  first | refine rt (hq := ?_) | refine rt' (hq := ?_)
  exact ⟨rfl, hs.only0 rfl⟩
theorem exit_nil (id : Int) (w0 : World) : Ret Tryz.prog 8 #[.pointer none, .int .i64 id] w0 fun v w' => v = .tuple #[rv .zero, .int .i64 1] ∧ Only [] w0 w' := by
  have hs := St.nil w0
  refine ret_of_xc Tryz.func8 (by kernel_rfl) rfl Tryz.ntmps8 rfl rfl rfl ?_
  repeat' (first|refine vs (k:=?_)|refine ps (k:=?_)|((first|refine st hs (k:=?_)|refine stA hs (k:=?_));intro w hs)|((first|refine al hs (k:=?_)|refine bx hs (k:=?_)|refine bs hs (k:=?_));intro b w hz hs)|refine qRg ?_|refine Nx.h ?_|refine qBo ?_|refine qCt ?_|refine qCf ?_|((with_reducible apply xs_guard);exact rfl;exact rfl;intro c hc;(fail_if_success have:true=c:=hc);(fail_if_success have:false=c:=hc);cases c)|(refine xc_if rfl (fun hc=>?_) (fun hc=>?_))|(refine xc_cond rfl (fun hc=>?_) (fun hc=>?_)))
  first | refine rt (hq := ?_) | refine rt' (hq := ?_)
  exact ⟨rfl, hs.only0 rfl⟩
theorem req_nil (id : Int) (w0 : World) : Ret Tryz.prog 9 #[.pointer none, .int .i64 id] w0 fun v w' => v = .tuple #[rv .zero, .bool false] ∧ Only [] w0 w' := by
  have hs := St.nil w0
  refine ret_of_xc Tryz.func9 (by kernel_rfl) rfl Tryz.ntmps9 rfl rfl rfl ?_
  repeat' (first|refine vs (k:=?_)|refine ps (k:=?_)|((first|refine st hs (k:=?_)|refine stA hs (k:=?_));intro w hs)|((first|refine al hs (k:=?_)|refine bx hs (k:=?_)|refine bs hs (k:=?_));intro b w hz hs)|refine qRg ?_|refine Nx.h ?_|refine qBo ?_|refine qCt ?_|refine qCf ?_|((with_reducible apply xs_guard);exact rfl;exact rfl;intro c hc;(fail_if_success have:true=c:=hc);(fail_if_success have:false=c:=hc);cases c)|(refine xc_if rfl (fun hc=>?_) (fun hc=>?_))|(refine xc_cond rfl (fun hc=>?_) (fun hc=>?_)))
  first | refine rt (hq := ?_) | refine rt' (hq := ?_)
  exact ⟨rfl, hs.only0 rfl⟩
theorem rouse_nil (id : Int) (b : Bool) (w0 : World) : Ret Tryz.prog 14 #[.pointer none, .int .i64 id, .bool b] w0 fun v w' => v = .int .i64 1 ∧ Only [] w0 w' := by
  have hs := St.nil w0
  refine ret_of_xc Tryz.func14 (by kernel_rfl) rfl Tryz.ntmps14 rfl rfl rfl ?_
  repeat' (first|refine vs (k:=?_)|refine ps (k:=?_)|((first|refine st hs (k:=?_)|refine stA hs (k:=?_));intro w hs)|((first|refine al hs (k:=?_)|refine bx hs (k:=?_)|refine bs hs (k:=?_));intro b w hz hs)|refine qRg ?_|refine Nx.h ?_|refine qBo ?_|refine qCt ?_|refine qCf ?_|((with_reducible apply xs_guard);exact rfl;exact rfl;intro c hc;(fail_if_success have:true=c:=hc);(fail_if_success have:false=c:=hc);cases c)|(refine xc_if rfl (fun hc=>?_) (fun hc=>?_))|(refine xc_cond rfl (fun hc=>?_) (fun hc=>?_)))
  first | refine rt (hq := ?_) | refine rt' (hq := ?_)
  exact ⟨rfl, hs.only0 rfl⟩
theorem reqs_nil (w0 : World) : Ret Tryz.prog 16 #[.pointer none] w0 fun v w' => v = .slice none 0 0 ∧ Only [] w0 w' := by
  have hs := St.nil w0
  refine ret_of_xc Tryz.func16 (by kernel_rfl) rfl Tryz.ntmps16 rfl rfl rfl ?_
  repeat' (first|refine vs (k:=?_)|refine ps (k:=?_)|((first|refine st hs (k:=?_)|refine stA hs (k:=?_));intro w hs)|((first|refine al hs (k:=?_)|refine bx hs (k:=?_)|refine bs hs (k:=?_));intro b w hz hs)|refine qRg ?_|refine Nx.h ?_|refine qBo ?_|refine qCt ?_|refine qCf ?_|((with_reducible apply xs_guard);exact rfl;exact rfl;intro c hc;(fail_if_success have:true=c:=hc);(fail_if_success have:false=c:=hc);cases c)|(refine xc_if rfl (fun hc=>?_) (fun hc=>?_))|(refine xc_cond rfl (fun hc=>?_) (fun hc=>?_)))
  first | refine rt (hq := ?_) | refine rt' (hq := ?_)
  exact ⟨rfl, hs.only0 rfl⟩
theorem clone_nil (w0 : World) : Ret Tryz.prog 17 #[.pointer none] w0 fun v w' => v = .pointer none ∧ Only [] w0 w' := by
  have hs := St.nil w0
  refine ret_of_xc Tryz.func17 (by kernel_rfl) rfl Tryz.ntmps17 rfl rfl rfl ?_
  repeat' (first|refine vs (k:=?_)|refine ps (k:=?_)|((first|refine st hs (k:=?_)|refine stA hs (k:=?_));intro w hs)|((first|refine al hs (k:=?_)|refine bx hs (k:=?_)|refine bs hs (k:=?_));intro b w hz hs)|refine qRg ?_|refine Nx.h ?_|refine qBo ?_|refine qCt ?_|refine qCf ?_|((with_reducible apply xs_guard);exact rfl;exact rfl;intro c hc;(fail_if_success have:true=c:=hc);(fail_if_success have:false=c:=hc);cases c)|(refine xc_if rfl (fun hc=>?_) (fun hc=>?_))|(refine xc_cond rfl (fun hc=>?_) (fun hc=>?_)))
  first | refine rt (hq := ?_) | refine rt' (hq := ?_)
  exact ⟨rfl, hs.only0 rfl⟩
end Go.Proofs.YtegoaabjccignaaGreatDoorX

namespace Go.Proofs.YtegoaabjccignaaGreatDoorX
open Go Go.RowKit
open IB (IT ITsAt flatT)
attribute [local irreducible] XS XC XA thenE blockE retE loopE loopS cutB cutN doneE SE
set_option maxHeartbeats 4000000 in
theorem req_ret (sb : Nat) (s : Ss) (F : List Nat) (id : Int) (w0 : World) (h : SAt w0 sb s F) (hid : In64 id) :
    Ret Tryz.prog 9 #[.pointer (some ⟨sb, 0, none⟩), .int .i64 id] w0 fun v w' => v = .tuple #[rv (getL s.l id), .bool (findR s.l id).isSome] ∧ Only [] w0 w' := by
  obtain ⟨qb, mb, Fq, rfl, h1, h2, h3, h4, h5⟩ := h
  have hs := (St.nil w0).track h1 (by simp)
  refine ret_of_xc Tryz.func9 (by kernel_rfl) rfl Tryz.ntmps9 rfl rfl rfl ?_
  repeat' (first|refine vs (k:=?_)|refine ps (k:=?_)|((first|refine st hs (k:=?_)|refine stA hs (k:=?_));intro w hs)|((first|refine al hs (k:=?_)|refine bx hs (k:=?_)|refine bs hs (k:=?_));intro b w hz hs)|refine qRg ?_|refine Nx.h ?_|refine qBo ?_|refine qCt ?_|refine qCf ?_|((with_reducible apply xs_guard);exact rfl;exact rfl;intro c hc;(fail_if_success have:true=c:=hc);(fail_if_success have:false=c:=hc);cases c)|(refine xc_if rfl (fun hc=>?_) (fun hc=>?_))|(refine xc_cond rfl (fun hc=>?_) (fun hc=>?_)))
  have ho := hs.onlyF [] (by simp [h1]) (by simp [D0])
  refine xs_look (e := 36) (z := rv .zero) (h2.keep ho (by simp)) hid (by kernel_rfl) (by kernel_rfl) (k := ?_)
  rw [rvals_get, rvals_some]
  generalize getL s.l id = x
  repeat' (first|refine vs (k:=?_)|refine ps (k:=?_)|((first|refine st hs (k:=?_)|refine stA hs (k:=?_));intro w hs)|((first|refine al hs (k:=?_)|refine bx hs (k:=?_)|refine bs hs (k:=?_));intro b w hz hs)|refine qRg ?_|refine Nx.h ?_|refine qBo ?_|refine qCt ?_|refine qCf ?_|((with_reducible apply xs_guard);exact rfl;exact rfl;intro c hc;(fail_if_success have:true=c:=hc);(fail_if_success have:false=c:=hc);cases c)|(refine xc_if rfl (fun hc=>?_) (fun hc=>?_))|(refine xc_cond rfl (fun hc=>?_) (fun hc=>?_)))
  first | refine rt (hq := ?_) | refine rt' (hq := ?_)
  exact ⟨rfl, hs.onlyF [] (by simp [h1]) (by simp [D0])⟩
def exitS (s : Ss) (id : Int) : Ss := ⟨leaveQ s.q id, delR id s.l⟩
set_option maxHeartbeats 4000000 in
theorem exit_ret (sb : Nat) (s : Ss) (F : List Nat) (id : Int) (w0 : World) (h : SAt w0 sb s F) (hid : In64 id) (hlen : s.q.t.list.length ≤ 1000000) (a : IT) (hf : s.q.f id = some a) (hd : CutOk a s.q.t) :
    Ret Tryz.prog 8 #[.pointer (some ⟨sb, 0, none⟩), .int .i64 id] w0 fun v w' => v = .tuple #[rv (getL s.l id), .int .i64 0] ∧ ∃ F', SAt w' sb (exitS s id) F' ∧ (∀ k ∈ F', k ∈ F ∨ w0.heap.size ≤ k) ∧ Only F w0 w' := by
  have hS := h
  obtain ⟨qb, mb, Fq, rfl, h1, h2, h3, h4, h5⟩ := h
  have hs := (St.nil w0).track h1 (by simp)
  have hlt := hS.lt
  refine ret_of_xc Tryz.func8 (by kernel_rfl) rfl Tryz.ntmps8 rfl rfl rfl ?_
  refine xc_seq ?_
  refine xc_region ?_ ?_; exact rfl
  refine al hs (k := ?_); intro b4 w hz hs
  have g4 := hs.new (b4, true) (by simp) rfl
  simp only at g4
  repeat' (first|refine vs (k:=?_)|refine ps (k:=?_)|((first|refine st hs (k:=?_)|refine stA hs (k:=?_));intro w hs)|((first|refine al hs (k:=?_)|refine bx hs (k:=?_)|refine bs hs (k:=?_));intro b w hz hs)|refine qRg ?_|refine Nx.h ?_|refine qBo ?_|refine qCt ?_|refine qCf ?_|((with_reducible apply xs_guard);exact rfl;exact rfl;intro c hc;(fail_if_success have:true=c:=hc);(fail_if_success have:false=c:=hc);cases c)|(refine xc_if rfl (fun hc=>?_) (fun hc=>?_))|(refine xc_cond rfl (fun hc=>?_) (fun hc=>?_)))
  have ho := hs.onlyF [] (by simp [h1]) (by simp [D0])
  have hsz := ho.size
  have l4 := lt_of_block (hs.get At.head)
  (with_reducible apply xs_call); exact rfl; exact rfl; exact qleave_ret qb s.q Fq id _ (h3.only ho) hid hlen (fun a' e => by rw [hf] at e; cases e; exact hd)
  rw [hf]
  rintro v w1 ⟨rfl, F', hQ, hF', ho1⟩
  have hno : ∀ k ∈ Fq, k ∉ [b4, sb] := fun k hk hm => by
    have hl := hlt k (by simp [hk])
    simp only [List.mem_cons, List.not_mem_nil, or_false] at hm
    rcases hm with rfl | rfl
    · omega
    · exact h3.not h1 (by decide) (by decide) (by decide) hk
  have hmF : mb ∉ F' := fun hm => by
    have := hlt mb (by simp)
    rcases hF' mb hm with h | h
    · exact h4 h
    · omega
  have hF2 : ∀ k ∈ sb :: mb :: F', k ∈ sb :: mb :: Fq ∨ w0.heap.size ≤ k := fun k hk => by
    simp only [List.mem_cons] at hk ⊢
    rcases hk with rfl | rfl | hk
    · simp
    · simp
    · rcases hF' k hk with h | h
      · simp [h]
      · exact .inr (by omega)
  have hM1 := (h2.keep ho (by simp)).keep ho1 h4
  have k4 := ho1.block (hs.get At.head) (fun hm => hno _ hm (by simp))
  have k6 := ho1.block (hs.get (At.tail At.head)) (fun hm => hno _ hm (by simp))
  have n46 : b4 ≠ sb := by have := hlt sb (by simp); omega
  have hoA : Only (sb :: mb :: Fq) w0 w1 := (ho.weaken (by simp)).step ho1 (fun k hk => .inl (by simp [hk]))
  have ltF' := hQ.lt
  clear hs
  have hs := ((St.nil w1).track k6 (by simp)).track k4 (by simpa using n46)
  repeat' (first|refine vs (k:=?_)|refine ps (k:=?_)|((first|refine st hs (k:=?_)|refine stA hs (k:=?_));intro w hs)|((first|refine al hs (k:=?_)|refine bx hs (k:=?_)|refine bs hs (k:=?_));intro b w hz hs)|refine qRg ?_|refine Nx.h ?_|refine qBo ?_|refine qCt ?_|refine qCf ?_|((with_reducible apply xs_guard);exact rfl;exact rfl;intro c hc;(fail_if_success have:true=c:=hc);(fail_if_success have:false=c:=hc);cases c)|(refine xc_if rfl (fun hc=>?_) (fun hc=>?_))|(refine xc_cond rfl (fun hc=>?_) (fun hc=>?_)))
  replace hs := hs.forgetNew
  have ho2 := hs.onlyF [] (by simp [k4, k6]) (by simp [D0])
  refine xs_look1 (e := 36) (z := rv .zero) (hM1.keep ho2 (by simp)) hid (by kernel_rfl) (by kernel_rfl) (k := ?_)
  rw [rvals_get]
  generalize getL s.l id = x at *
  refine al hs (k := ?_); intro b8 w8 hz8 hs
  have g8 := hs.new (b8, true) (by simp) rfl
  simp only at g8
  have hz1 := ho1.size
  repeat' (first|refine vs (k:=?_)|refine ps (k:=?_)|((first|refine st hs (k:=?_)|refine stA hs (k:=?_));intro w hs)|((first|refine al hs (k:=?_)|refine bx hs (k:=?_)|refine bs hs (k:=?_));intro b w hz hs)|refine qRg ?_|refine Nx.h ?_|refine qBo ?_|refine qCt ?_|refine qCf ?_|((with_reducible apply xs_guard);exact rfl;exact rfl;intro c hc;(fail_if_success have:true=c:=hc);(fail_if_success have:false=c:=hc);cases c)|(refine xc_if rfl (fun hc=>?_) (fun hc=>?_))|(refine xc_cond rfl (fun hc=>?_) (fun hc=>?_)))
  have ho3 := hs.onlyF [] (by simp [k4, k6]) (by simp [D0])
  have lm := hlt mb (by simp)
  refine xs_mapDel (e := 36) (hM1.keep ho3 (by simp)) hid (by kernel_rfl) (k := ?_)
  intro w3 hM3 ho4
  rw [rvals_del, rvals_some, ← len_del h5] at hM3
  have e1 := hs.get (At.tail (At.tail At.head))
  replace hs := hs.call ho4 (fun k hk hm => by
    obtain rfl := List.mem_singleton.1 hk
    simp only [List.map_cons, List.map_nil, List.mem_cons, List.not_mem_nil, or_false] at hm
    rcases hm with hm | hm | hm
    · omega
    · omega
    · exact (hM1.ne k6) hm.symm) (by simp [D0])
  have hQ3 := (hQ.only ho3).keepD ho4 (fun k hk hm => by obtain rfl := List.mem_singleton.1 hm; exact hmF hk)
  have hoB := (hoA.step ho3 (by simp)).step ho4 (by simp)
  have c1 := hs.get At.head
  have c2 := hs.get (At.tail At.head)
  have c3 := hs.get (At.tail (At.tail At.head))
  have n84 : b8 ≠ b4 := by have := hs.nd; simp only [List.map_cons, List.nodup_cons, List.mem_cons, not_or] at this; exact this.1.1
  have n86 : b8 ≠ sb := by have := hs.nd; simp only [List.map_cons, List.nodup_cons, List.mem_cons, not_or] at this; exact this.1.2.1
  clear hs
  have hs := (((St.nil w3).track c3 (by simp)).track c2 (by simpa using n46)).track c1 (by simp [n84, n86])
  repeat' (first|refine vs (k:=?_)|refine ps (k:=?_)|((first|refine st hs (k:=?_)|refine stA hs (k:=?_));intro w hs)|((first|refine al hs (k:=?_)|refine bx hs (k:=?_)|refine bs hs (k:=?_));intro b w hz hs)|refine qRg ?_|refine Nx.h ?_|refine qBo ?_|refine qCt ?_|refine qCf ?_|((with_reducible apply xs_guard);exact rfl;exact rfl;intro c hc;(fail_if_success have:true=c:=hc);(fail_if_success have:false=c:=hc);cases c)|(refine xc_if rfl (fun hc=>?_) (fun hc=>?_))|(refine xc_cond rfl (fun hc=>?_) (fun hc=>?_)))
  first | refine rt (hq := ?_) | refine rt' (hq := ?_)
  have hoC := hs.onlyF [b4] (by simp [c1, c3]) (by simp [D0])
  have hs4 : b4 ∉ F' := fun hm => by
    have := hF' b4 hm
    rcases this with h | h
    · exact hno b4 h (by simp)
    · omega
  refine ⟨rfl, _, ⟨qb, mb, F', rfl, hs.get (At.tail (At.tail At.head)), hM3.keep hoC (by simp; omega), hQ3.keepD hoC (fun k hk hm => by obtain rfl := List.mem_singleton.1 hm; exact hs4 hk), hmF, ord_del h5⟩, hF2, hoB.step hoC (fun k hk => .inr (by obtain rfl := List.mem_singleton.1 hk; exact g4))⟩
end Go.Proofs.YtegoaabjccignaaGreatDoorX

namespace Go.Proofs.YtegoaabjccignaaGreatDoorX
open Go Go.RowKit
open IB (IT ITsAt flatT)
attribute [local irreducible] XS XC XA thenE blockE retE loopE loopS cutB cutN doneE SE
def wakeR (a : RT) (b : Bool) : RT := ⟨⟨a.1.i, a.1.left, a.1.slice, b⟩, a.2⟩
def rouseE (s : Ss) (id : Int) : Int := errN (findR s.l id).isSome
def rouseS (s : Ss) (id : Int) (b : Bool) : Ss := match findR s.l id with | some a => ⟨s.q, putR (wakeR a b) s.l⟩ | none => s
set_option maxHeartbeats 4000000 in
theorem rouse_ret (sb : Nat) (s : Ss) (F : List Nat) (id : Int) (yb : Bool) (w0 : World) (h : SAt w0 sb s F) (hid : In64 id) (hn : s.l.length < 1000000) :
    Ret Tryz.prog 14 #[.pointer (some ⟨sb, 0, none⟩), .int .i64 id, .bool yb] w0 fun v w' => v = .int .i64 (rouseE s id) ∧ SAt w' sb (rouseS s id yb) F ∧ Only F w0 w' := by
  have hS := h
  obtain ⟨qb, mb, Fq, rfl, h1, h2, h3, h4, h5⟩ := h
  have hs := (St.nil w0).track h1 (by simp)
  have hlt := hS.lt
  refine ret_of_xc Tryz.func14 (by kernel_rfl) rfl Tryz.ntmps14 rfl rfl rfl ?_
  repeat' (first|refine vs (k:=?_)|refine ps (k:=?_)|((first|refine st hs (k:=?_)|refine stA hs (k:=?_));intro w hs)|((first|refine al hs (k:=?_)|refine bx hs (k:=?_)|refine bs hs (k:=?_));intro b w hz hs)|refine qRg ?_|refine Nx.h ?_|refine qBo ?_|refine qCt ?_|refine qCf ?_|((with_reducible apply xs_guard);exact rfl;exact rfl;intro c hc;(fail_if_success have:true=c:=hc);(fail_if_success have:false=c:=hc);cases c)|(refine xc_if rfl (fun hc=>?_) (fun hc=>?_))|(refine xc_cond rfl (fun hc=>?_) (fun hc=>?_)))
  have ho := hs.onlyF [] (by simp [h1]) (by simp [D0])
  refine xs_look (e := 36) (z := rv .zero) (h2.keep ho (by simp)) hid (by kernel_rfl) (by kernel_rfl) (k := ?_)
  rw [rvals_get, rvals_some]
  unfold rouseE rouseS
  cases hf : findR s.l id with
  | none =>
    repeat' (first|refine vs (k:=?_)|refine ps (k:=?_)|((first|refine st hs (k:=?_)|refine stA hs (k:=?_));intro w hs)|((first|refine al hs (k:=?_)|refine bx hs (k:=?_)|refine bs hs (k:=?_));intro b w hz hs)|refine qRg ?_|refine Nx.h ?_|refine qBo ?_|refine qCt ?_|refine qCf ?_|((with_reducible apply xs_guard);exact rfl;exact rfl;intro c hc;(fail_if_success have:true=c:=hc);(fail_if_success have:false=c:=hc);cases c)|(refine xc_if rfl (fun hc=>?_) (fun hc=>?_))|(refine xc_cond rfl (fun hc=>?_) (fun hc=>?_)))
    first | refine rt (hq := ?_) | refine rt' (hq := ?_)
    have ho := hs.onlyF [] (by simp [h1]) (by simp [D0])
    exact ⟨rfl, hS.only ho, ho.weaken (by simp)⟩
  | some a =>
    have ei : idR a = id := (findR_some hf).2
    rw [show getL s.l id = a.1 by unfold getL; rw [hf]]
    repeat' (first|refine vs (k:=?_)|refine ps (k:=?_)|((first|refine st hs (k:=?_)|refine stA hs (k:=?_));intro w hs)|((first|refine al hs (k:=?_)|refine bx hs (k:=?_)|refine bs hs (k:=?_));intro b w hz hs)|refine qRg ?_|refine Nx.h ?_|refine qBo ?_|refine qCt ?_|refine qCf ?_|((with_reducible apply xs_guard);exact rfl;exact rfl;intro c hc;(fail_if_success have:true=c:=hc);(fail_if_success have:false=c:=hc);cases c)|(refine xc_if rfl (fun hc=>?_) (fun hc=>?_))|(refine xc_cond rfl (fun hc=>?_) (fun hc=>?_)))
    refine dr [] hs (k := ?_); intro hX w hs
    refine tk 0 hX (k := ?_)
    refine tk 1 hX (k := ?_)
    refine tk 2 hX (k := ?_)
    refine tk 3 hX (k := ?_)
    refine tk 4 hX (k := ?_)
    refine tk 5 hX (k := ?_)
    refine dt 6 hX (k := ?_)
    have ho1 := hs.onlyF [] (by simp [h1]) (by simp [D0])
    have hM := h2.keep ho1 (by simp)
    have hmb := hlt mb (by simp)
    have hnb := hs.new (_, true) (List.mem_map_of_mem (List.mem_cons_self)) rfl
    simp only at hnb
    refine xs_mapPut (e := 36) (i := id) (v := rv (wakeR a yb).1) hM hid (by have : maxLen = 9223372036854775807 := rfl; omega) (by kernel_rfl) (k := ?_)
    intro w3 hM3 ho4
    rw [← ei, show idR a = idR (wakeR a yb) from rfl, rvals_put, rvals_some, ← len_put h5] at hM3
    have hQ3 := (h3.only ho1).keepD ho4 (fun k hk hm => by obtain rfl := List.mem_singleton.1 hm; exact h4 hk)
    have ns : mb ≠ sb := fun e => (hM.ne (hs.get (At.tail At.head))) e.symm
    replace hs := hs.call ho4 (fun k hk hm => by
      obtain rfl := List.mem_singleton.1 hk
      simp only [List.map_cons, List.map_nil, List.mem_cons, List.not_mem_nil, or_false] at hm
      rcases hm with hm | hm
      · omega
      · exact ns hm) (by simp [D0])
    repeat' (first|refine vs (k:=?_)|refine ps (k:=?_)|((first|refine st hs (k:=?_)|refine stA hs (k:=?_));intro w hs)|((first|refine al hs (k:=?_)|refine bx hs (k:=?_)|refine bs hs (k:=?_));intro b w hz hs)|refine qRg ?_|refine Nx.h ?_|refine qBo ?_|refine qCt ?_|refine qCf ?_|((with_reducible apply xs_guard);exact rfl;exact rfl;intro c hc;(fail_if_success have:true=c:=hc);(fail_if_success have:false=c:=hc);cases c)|(refine xc_if rfl (fun hc=>?_) (fun hc=>?_))|(refine xc_cond rfl (fun hc=>?_) (fun hc=>?_)))
    refine dn (k := ?_)
    refine en (k := ?_)
    repeat' (first|refine vs (k:=?_)|refine ps (k:=?_)|((first|refine st hs (k:=?_)|refine stA hs (k:=?_));intro w hs)|((first|refine al hs (k:=?_)|refine bx hs (k:=?_)|refine bs hs (k:=?_));intro b w hz hs)|refine qRg ?_|refine Nx.h ?_|refine qBo ?_|refine qCt ?_|refine qCf ?_|((with_reducible apply xs_guard);exact rfl;exact rfl;intro c hc;(fail_if_success have:true=c:=hc);(fail_if_success have:false=c:=hc);cases c)|(refine xc_if rfl (fun hc=>?_) (fun hc=>?_))|(refine xc_cond rfl (fun hc=>?_) (fun hc=>?_)))
    first | refine rt (hq := ?_) | refine rt' (hq := ?_)
    exact ⟨rfl, ⟨qb, mb, Fq, rfl, hs.get (At.tail At.head), hM3, hQ3, h4, ord_put h5⟩, (ho1.weaken (by simp)).step ho4 (by simp)⟩
end Go.Proofs.YtegoaabjccignaaGreatDoorX

namespace Go.Proofs.YtegoaabjccignaaGreatDoorX
open Go Go.RowKit
open IB (IT ITsAt flatT)
attribute [local irreducible] XS XC XA thenE blockE retE loopE loopS cutB cutN doneE SE
def flatR (l : List RT) : List Value := (l.map fun a => a.1.cells).flatten
theorem flatR_app (a b : List RT) : flatR (a ++ b) = flatR a ++ flatR b := by simp [flatR]
set_option maxHeartbeats 4000000 in
theorem reqs_ret (sb : Nat) (s : Ss) (F : List Nat) (w0 : World) (h : SAt w0 sb s F) (hn : s.l.length ≤ 1000000) :
    Ret Tryz.prog 16 #[.pointer (some ⟨sb, 0, none⟩)] w0 fun v w' => (∃ G, SlV w' 36 10 v s.l.length (flatR s.l) G ∧ ∀ k ∈ G, w0.heap.size ≤ k) ∧ Only [] w0 w' := by
  obtain ⟨qb, mb, Fq, rfl, h1, h2, h3, h4, h5⟩ := h
  have hs := (St.nil w0).track h1 (by simp)
  refine ret_of_xc Tryz.func16 (by kernel_rfl) rfl Tryz.ntmps16 rfl rfl rfl ?_
  repeat' (first|refine vs (k:=?_)|refine ps (k:=?_)|((first|refine st hs (k:=?_)|refine stA hs (k:=?_));intro w hs)|((first|refine al hs (k:=?_)|refine bx hs (k:=?_)|refine bs hs (k:=?_));intro b w hz hs)|refine qRg ?_|refine Nx.h ?_|refine qBo ?_|refine qCt ?_|refine qCf ?_|((with_reducible apply xs_guard);exact rfl;exact rfl;intro c hc;(fail_if_success have:true=c:=hc);(fail_if_success have:false=c:=hc);cases c)|(refine xc_if rfl (fun hc=>?_) (fun hc=>?_))|(refine xc_cond rfl (fun hc=>?_) (fun hc=>?_)))
  have ho := hs.onlyF [] (by simp [h1]) (by simp [D0])
  (with_reducible apply xs_call); exact rfl; exact rfl; exact keys_ret mb _
  rintro v w1 ⟨rfl, rfl⟩
  (with_reducible apply xs_call); exact rfl; exact rfl; exact sorted_ret mb s.l.length (rvals s.l) (s.l.map idR) w0 h2 hn h5 (ids_iff s.l)
  rintro v2 w2 ⟨⟨ad, cap, rfl, hD⟩, _, ho2⟩
  have hoA : Only [] w0 w2 := (((St.nil w0).alloc _).only0 rfl).trans ho2
  clear hs ho ho2
  rw [List.length_map, List.length_map]
  have hsb2 := hoA.block h1 (by simp)
  have hM2 := h2.keep hoA (by simp)
  have hz2 := hoA.size
  rw [List.length_map, List.length_map] at hD
  have hs := (St.nil w2).track hsb2 (by simp)
  repeat' (first|refine vs (k:=?_)|refine ps (k:=?_)|((first|refine st hs (k:=?_)|refine stA hs (k:=?_));intro w hs)|((first|refine al hs (k:=?_)|refine bx hs (k:=?_)|refine bs hs (k:=?_));intro b w hz hs)|refine qRg ?_|refine Nx.h ?_|refine qBo ?_|refine qCt ?_|refine qCf ?_|((with_reducible apply xs_guard);exact rfl;exact rfl;intro c hc;(fail_if_success have:true=c:=hc);(fail_if_success have:false=c:=hc);cases c)|(refine xc_if rfl (fun hc=>?_) (fun hc=>?_))|(refine xc_cond rfl (fun hc=>?_) (fun hc=>?_)))
  refine xc_cutB (fun (v3 : Value) => [(3, v3)]) (fun v3 w => Only [] w2 w ∧ ∃ G, SlV w 36 10 v3 s.l.length (flatR s.l) G ∧ ∀ k ∈ G, w2.heap.size ≤ k) ?_ ?_
  · refine xc_loopS (fun (x : Nat × Value) => [(0, .pointer (some ⟨sb, 0, none⟩)), (3, x.2), (13, .slice ad s.l.length cap), (14, .int .i64 (s.l.length : Nat)), (15, .int .i64 (x.1 : Nat))])
      (fun x w => x.1 ≤ s.l.length ∧ Only [] w2 w ∧ ∃ G, SlV w 36 10 x.2 x.1 (flatR (s.l.take x.1)) G ∧ ∀ k ∈ G, w2.heap.size ≤ k) (fun x => s.l.length - x.1) (0, .slice none 0 0) (by (repeat (first | exact agree_nil | (apply agree_cons; exact rfl)))) ⟨Nat.zero_le _, hs.onlyF [] (by simp [hsb2]) (by simp [D0]), [], .inl ⟨rfl, rfl, rfl, rfl⟩, by simp⟩ fun x env wl ⟨hi, ho0, hT⟩ => ?_
    obtain ⟨i, v5⟩ := x
    simp only at hi hT
    obtain ⟨G, hG, hGn⟩ := hT
    clear hs
    have hsl := ho0.block hsb2 (by simp)
    have hs := (St.nil wl).track hsl (by simp)
    repeat' (first|refine vs (k:=?_)|refine ps (k:=?_)|((first|refine st hs (k:=?_)|refine stA hs (k:=?_));intro w hs)|((first|refine al hs (k:=?_)|refine bx hs (k:=?_)|refine bs hs (k:=?_));intro b w hz hs)|refine qRg ?_|refine Nx.h ?_|refine qBo ?_|refine qCt ?_|refine qCf ?_|((with_reducible apply xs_guard);exact rfl;exact rfl;intro c hc;(fail_if_success have:true=c:=hc);(fail_if_success have:false=c:=hc);cases c)|(refine xc_if rfl (fun hc=>?_) (fun hc=>?_))|(refine xc_cond rfl (fun hc=>?_) (fun hc=>?_)))
    · have hlt : i < s.l.length := by omega
      obtain ⟨b, off, cs, fz, rfl, _, hb, hcs⟩ := hD (fun h => by simp at h; rw [h] at hlt; cases hlt)
      have hpk := hcs i (intR (idR s.l[i])) (by rw [List.getElem?_map, List.getElem?_map, List.getElem?_eq_getElem hlt]; rfl)
      have ei := nx64 (m := s.l.length) hlt (by omega)
      have et : flatR (s.l.take (i + 1)) = flatR (s.l.take i) ++ s.l[i].1.cells := by rw [take_next hlt, flatR_app]; simp [flatR]
      have hfa := findR_at h5 (List.getElem_mem hlt)
      have hlk : getL s.l (idR s.l[i]) = s.l[i].1 := by unfold getL; rw [hfa]
      have hin := s.l[i].2.1.2.1
      generalize s.l[i] = q at *
      refine ix (h0 := (by omega)) (h1 := (by omega)) (k := ?_)
      refine lh (ho0.block hb (by simp)) (by cases hpk; assumption) (k := ?_)
      repeat' (first|refine vs (k:=?_)|refine ps (k:=?_)|((first|refine st hs (k:=?_)|refine stA hs (k:=?_));intro w hs)|((first|refine al hs (k:=?_)|refine bx hs (k:=?_)|refine bs hs (k:=?_));intro b w hz hs)|refine qRg ?_|refine Nx.h ?_|refine qBo ?_|refine qCt ?_|refine qCf ?_|((with_reducible apply xs_guard);exact rfl;exact rfl;intro c hc;(fail_if_success have:true=c:=hc);(fail_if_success have:false=c:=hc);cases c)|(refine xc_if rfl (fun hc=>?_) (fun hc=>?_))|(refine xc_cond rfl (fun hc=>?_) (fun hc=>?_)))
      refine xs_look1 (e := 36) (z := rv .zero) (i := idR q) (hM2.keep ho0 (by simp)) hin (by kernel_rfl) (by kernel_rfl) (k := ?_)
      rw [rvals_get, hlk]
      refine bs hs (k := ?_); intro b26 w26 hz26 hs
      have hb26 := hs.get At.head
      have hlG := hG.lt
      have ho26 := hs.onlyF [] (by simp [hsl]) (by simp [D0])
      refine xs_appendW tabOk rfl rfl rfl rfl rfl rfl rfl (by decide) (lit_cells (news := q.1.cells) hb26) (by simp [Value.oneCell']) (hG.keep ho26 (by simp)) (by omega) (by omega) ?_
      intro v5' w4 ⟨G', hG', hGn'⟩ ho4
      have hz4 := ho26.size
      have hz0 := ho0.size
      clear hs
      have hs := St.nil w4
      repeat' (first|refine vs (k:=?_)|refine ps (k:=?_)|((first|refine st hs (k:=?_)|refine stA hs (k:=?_));intro w hs)|((first|refine al hs (k:=?_)|refine bx hs (k:=?_)|refine bs hs (k:=?_));intro b w hz hs)|refine qRg ?_|refine Nx.h ?_|refine qBo ?_|refine qCt ?_|refine qCf ?_|((with_reducible apply xs_guard);exact rfl;exact rfl;intro c hc;(fail_if_success have:true=c:=hc);(fail_if_success have:false=c:=hc);cases c)|(refine xc_if rfl (fun hc=>?_) (fun hc=>?_))|(refine xc_cond rfl (fun hc=>?_) (fun hc=>?_)))
      refine loopS_next (i + 1, v5') (by show s.l.length - (i + 1) < s.l.length - i; omega) (by (repeat (first | exact agree_nil | (apply agree_cons; first | exact rfl | exact congrArg (Value.int .i64) ei)))) ⟨by show i + 1 ≤ _; omega, ((ho0.trans ho26).news hGn ho4).trans (hs.only0 rfl), G', ?_, ?_⟩
      · simp only [et]
        exact hG'.keep (hs.only0 rfl) (by simp)
      · intro k hk
        rcases hGn' k hk with h | h
        · exact hGn k h
        · omega
    · have e : i = s.l.length := by omega
      subst e
      rw [List.take_length] at hG
      exact cutB_exit v5 (by (repeat (first | exact agree_nil | (apply agree_cons; exact rfl)))) ⟨ho0, G, hG, hGn⟩
  · rintro v5 env w ⟨ho0, G, hG, hGn⟩
    clear hs
    have hs := St.nil w
    repeat' (first|refine vs (k:=?_)|refine ps (k:=?_)|((first|refine st hs (k:=?_)|refine stA hs (k:=?_));intro w hs)|((first|refine al hs (k:=?_)|refine bx hs (k:=?_)|refine bs hs (k:=?_));intro b w hz hs)|refine qRg ?_|refine Nx.h ?_|refine qBo ?_|refine qCt ?_|refine qCf ?_|((with_reducible apply xs_guard);exact rfl;exact rfl;intro c hc;(fail_if_success have:true=c:=hc);(fail_if_success have:false=c:=hc);cases c)|(refine xc_if rfl (fun hc=>?_) (fun hc=>?_))|(refine xc_cond rfl (fun hc=>?_) (fun hc=>?_)))
    first | refine rt (hq := ?_) | refine rt' (hq := ?_)
    exact ⟨⟨G, hG.keep (hs.only0 rfl) (by simp), fun k hk => by have := hGn k hk; omega⟩, (hoA.trans ho0).trans (hs.only0 rfl)⟩
end Go.Proofs.YtegoaabjccignaaGreatDoorX

namespace Go.Proofs.YtegoaabjccignaaGreatDoorX
open Go Go.RowKit
open IB (IT ITsAt flatT)
attribute [local irreducible] XS XC XA thenE blockE retE loopE loopS cutB cutN doneE SE
abbrev RsAt (w : World) (v : Value) (l : List RT) : Prop := LsAt w 36 10 v (l.map fun a => a.1.cells)
theorem rs_of {w : World} {v : Value} {l : List RT} {G : List Nat} (h : SlV w 36 10 v l.length (flatR l) G) : RsAt w v l :=
  h.ls rfl (by simp) (fun x hx => by obtain ⟨a, _, rfl⟩ := List.mem_map.1 hx; rfl)
def runN (l : List RT) : Nat := (l.filter fun a => !a.1.asleep).length
theorem runN_app (a b : List RT) : runN (a ++ b) = runN a + runN b := by simp [runN, List.filter_append]
theorem runN_le (l : List RT) : runN l ≤ l.length := List.length_filter_le _ _
set_option maxHeartbeats 2000000 in
theorem runnable_ret (sb : Nat) (s : Ss) (F : List Nat) (w0 : World) (h : SAt w0 sb s F) (hn : s.l.length ≤ 1000000) :
    Ret Tryz.prog 15 #[.pointer (some ⟨sb, 0, none⟩)] w0 fun v w' => v = .int .i64 (runN s.l : Nat) ∧ Only [] w0 w' := by
  have hs := St.nil w0
  refine ret_of_xc Tryz.func15 (by kernel_rfl) rfl Tryz.ntmps15 rfl rfl rfl ?_
  repeat' (first|refine vs (k:=?_)|refine ps (k:=?_)|((first|refine st hs (k:=?_)|refine stA hs (k:=?_));intro w hs)|((first|refine al hs (k:=?_)|refine bx hs (k:=?_)|refine bs hs (k:=?_));intro b w hz hs)|refine qRg ?_|refine Nx.h ?_|refine qBo ?_|refine qCt ?_|refine qCf ?_|((with_reducible apply xs_guard);exact rfl;exact rfl;intro c hc;(fail_if_success have:true=c:=hc);(fail_if_success have:false=c:=hc);cases c)|(refine xc_if rfl (fun hc=>?_) (fun hc=>?_))|(refine xc_cond rfl (fun hc=>?_) (fun hc=>?_)))
  have ho := hs.only0 rfl
  (with_reducible apply xs_call); exact rfl; exact rfl; exact reqs_ret sb s F _ (h.only ho) hn
  rintro v2 w2 ⟨⟨G, hG, _⟩, ho2⟩
  obtain ⟨ad, cap, rfl, hD⟩ := rs_of hG
  rw [List.length_map]
  rw [List.length_map] at hD
  have hoA := ho.trans ho2
  clear hs
  have hs := St.nil w2
  repeat' (first|refine vs (k:=?_)|refine ps (k:=?_)|((first|refine st hs (k:=?_)|refine stA hs (k:=?_));intro w hs)|((first|refine al hs (k:=?_)|refine bx hs (k:=?_)|refine bs hs (k:=?_));intro b w hz hs)|refine qRg ?_|refine Nx.h ?_|refine qBo ?_|refine qCt ?_|refine qCf ?_|((with_reducible apply xs_guard);exact rfl;exact rfl;intro c hc;(fail_if_success have:true=c:=hc);(fail_if_success have:false=c:=hc);cases c)|(refine xc_if rfl (fun hc=>?_) (fun hc=>?_))|(refine xc_cond rfl (fun hc=>?_) (fun hc=>?_)))
  refine xc_cutB (fun (_ : Unit) => [(3, .int .i64 (runN s.l : Nat))]) (fun _ w => Only [] w2 w) ?_ ?_
  · refine xc_loopS (fun (x : Nat) => [(3, .int .i64 (runN (s.l.take x) : Nat)), (7, .slice ad s.l.length cap), (8, .int .i64 (s.l.length : Nat)), (9, .int .i64 (x : Nat))])
      (fun x w => x ≤ s.l.length ∧ Only [] w2 w) (fun x => s.l.length - x) 0 (by (repeat (first | exact agree_nil | (apply agree_cons; exact rfl)))) ⟨Nat.zero_le _, hs.only0 rfl⟩ fun i env wl ⟨hi, ho0⟩ => ?_
    clear hs
    have hs := St.nil wl
    repeat' (first|refine vs (k:=?_)|refine ps (k:=?_)|((first|refine st hs (k:=?_)|refine stA hs (k:=?_));intro w hs)|((first|refine al hs (k:=?_)|refine bx hs (k:=?_)|refine bs hs (k:=?_));intro b w hz hs)|refine qRg ?_|refine Nx.h ?_|refine qBo ?_|refine qCt ?_|refine qCf ?_|((with_reducible apply xs_guard);exact rfl;exact rfl;intro c hc;(fail_if_success have:true=c:=hc);(fail_if_success have:false=c:=hc);cases c)|(refine xc_if rfl (fun hc=>?_) (fun hc=>?_))|(refine xc_cond rfl (fun hc=>?_) (fun hc=>?_)))
    · have hlt : i < s.l.length := by omega
      obtain ⟨b, off, cs, fz, rfl, _, hb, hcs⟩ := hD (fun h => by rw [List.map_eq_nil_iff.1 h] at hlt; cases hlt)
      have hpk := hcs i (Rq.cells s.l[i].1) (by rw [List.getElem?_map, List.getElem?_eq_getElem hlt]; rfl)
      have ei := nx64 (m := s.l.length) hlt (by omega)
      have et : runN (s.l.take (i + 1)) = runN (s.l.take i) + bif s.l[i].1.asleep then 0 else 1 := by rw [take_next hlt, runN_app]; congr 1; unfold runN; rw [List.filter_cons, List.filter_nil]; cases s.l[i].1.asleep <;> rfl
      have hle := runN_le (s.l.take i)
      rw [List.length_take] at hle
      have ec := nx64 (i := runN (s.l.take i)) (m := s.l.length + 1) (by omega) (by omega)
      generalize s.l[i] = q at *
      refine ix (h0 := (by omega)) (h1 := (by omega)) (k := ?_)
      refine lhK (ho0.block hb (by simp)) hpk (k := ?_)
      refine al hs (k := ?_); intro b8 w8 hz hs
      repeat' (first|refine vs (k:=?_)|refine ps (k:=?_)|((first|refine st hs (k:=?_)|refine stA hs (k:=?_));intro w hs)|((first|refine al hs (k:=?_)|refine bx hs (k:=?_)|refine bs hs (k:=?_));intro b w hz hs)|refine qRg ?_|refine Nx.h ?_|refine qBo ?_|refine qCt ?_|refine qCf ?_|((with_reducible apply xs_guard);exact rfl;exact rfl;intro c hc;(fail_if_success have:true=c:=hc);(fail_if_success have:false=c:=hc);cases c)|(refine xc_if rfl (fun hc=>?_) (fun hc=>?_))|(refine xc_cond rfl (fun hc=>?_) (fun hc=>?_)))
      · have eq : q.1.asleep = false := by simpa using ‹(!q.1.asleep) = true›
        rw [eq] at et
        refine loopS_next (i + 1) (by show s.l.length - (i + 1) < s.l.length - i; omega) ?_ ⟨by show i + 1 ≤ _; omega, ho0.trans (hs.only0 rfl)⟩
        rw [et]
        (repeat (first | exact agree_nil | (apply agree_cons; first | exact rfl | exact congrArg (Value.int .i64) ei | exact congrArg (Value.int .i64) ec)))
      · have eq : q.1.asleep = true := by simpa using ‹(!q.1.asleep) = false›
        rw [eq] at et
        refine loopS_next (i + 1) (by show s.l.length - (i + 1) < s.l.length - i; omega) ?_ ⟨by show i + 1 ≤ _; omega, ho0.trans (hs.only0 rfl)⟩
        rw [et]
        (repeat (first | exact agree_nil | (apply agree_cons; first | exact rfl | exact congrArg (Value.int .i64) ei)))
    · have e : i = s.l.length := by omega
      subst e
      rw [List.take_length]
      exact cutB_exit () (by (repeat (first | exact agree_nil | (apply agree_cons; exact rfl)))) ho0
  · rintro _ env w ho0
    clear hs
    have hs := St.nil w
    repeat' (first|refine vs (k:=?_)|refine ps (k:=?_)|((first|refine st hs (k:=?_)|refine stA hs (k:=?_));intro w hs)|((first|refine al hs (k:=?_)|refine bx hs (k:=?_)|refine bs hs (k:=?_));intro b w hz hs)|refine qRg ?_|refine Nx.h ?_|refine qBo ?_|refine qCt ?_|refine qCf ?_|((with_reducible apply xs_guard);exact rfl;exact rfl;intro c hc;(fail_if_success have:true=c:=hc);(fail_if_success have:false=c:=hc);cases c)|(refine xc_if rfl (fun hc=>?_) (fun hc=>?_))|(refine xc_cond rfl (fun hc=>?_) (fun hc=>?_)))
    first | refine rt (hq := ?_) | refine rt' (hq := ?_)
    exact ⟨rfl, (hoA.trans ho0).trans (hs.only0 rfl)⟩
theorem runnable_nil (w0 : World) : Ret Tryz.prog 15 #[.pointer none] w0 fun v w' => v = .int .i64 0 ∧ Only [] w0 w' := by
  have hs := St.nil w0
  refine ret_of_xc Tryz.func15 (by kernel_rfl) rfl Tryz.ntmps15 rfl rfl rfl ?_
  repeat' (first|refine vs (k:=?_)|refine ps (k:=?_)|((first|refine st hs (k:=?_)|refine stA hs (k:=?_));intro w hs)|((first|refine al hs (k:=?_)|refine bx hs (k:=?_)|refine bs hs (k:=?_));intro b w hz hs)|refine qRg ?_|refine Nx.h ?_|refine qBo ?_|refine qCt ?_|refine qCf ?_|((with_reducible apply xs_guard);exact rfl;exact rfl;intro c hc;(fail_if_success have:true=c:=hc);(fail_if_success have:false=c:=hc);cases c)|(refine xc_if rfl (fun hc=>?_) (fun hc=>?_))|(refine xc_cond rfl (fun hc=>?_) (fun hc=>?_)))
  (with_reducible apply xs_call); exact rfl; exact rfl; exact reqs_nil _
  rintro v w' ⟨rfl, ho⟩; replace hs := hs.call0 ho; repeat' (first|refine vs (k:=?_)|refine ps (k:=?_)|((first|refine st hs (k:=?_)|refine stA hs (k:=?_));intro w hs)|((first|refine al hs (k:=?_)|refine bx hs (k:=?_)|refine bs hs (k:=?_));intro b w hz hs)|refine qRg ?_|refine Nx.h ?_|refine qBo ?_|refine qCt ?_|refine qCf ?_|((with_reducible apply xs_guard);exact rfl;exact rfl;intro c hc;(fail_if_success have:true=c:=hc);(fail_if_success have:false=c:=hc);cases c)|(refine xc_if rfl (fun hc=>?_) (fun hc=>?_))|(refine xc_cond rfl (fun hc=>?_) (fun hc=>?_)))
  refine xc_cutB (fun (_ : Unit) => [(3, .int .i64 0)]) (fun _ w => Only [] w0 w) ?_ ?_
  · refine xc_loopS (fun (x : Unit) => [(3, .int .i64 0), (8, .int .i64 (0 : Nat)), (9, .int .i64 0)]) (fun x w => Only [] w0 w) (fun x => 0) () (by (repeat (first | exact agree_nil | (apply agree_cons; exact rfl)))) (hs.only0 rfl) fun i env wl ho0 => ?_
    clear hs
    have hs := St.nil wl
    repeat' (first|refine vs (k:=?_)|refine ps (k:=?_)|((first|refine st hs (k:=?_)|refine stA hs (k:=?_));intro w hs)|((first|refine al hs (k:=?_)|refine bx hs (k:=?_)|refine bs hs (k:=?_));intro b w hz hs)|refine qRg ?_|refine Nx.h ?_|refine qBo ?_|refine qCt ?_|refine qCf ?_|((with_reducible apply xs_guard);exact rfl;exact rfl;intro c hc;(fail_if_success have:true=c:=hc);(fail_if_success have:false=c:=hc);cases c)|(refine xc_if rfl (fun hc=>?_) (fun hc=>?_))|(refine xc_cond rfl (fun hc=>?_) (fun hc=>?_)))
    exact cutB_exit () (by (repeat (first | exact agree_nil | (apply agree_cons; exact rfl)))) ho0
  · rintro _ env w ho0
    clear hs
    have hs := St.nil w
    repeat' (first|refine vs (k:=?_)|refine ps (k:=?_)|((first|refine st hs (k:=?_)|refine stA hs (k:=?_));intro w hs)|((first|refine al hs (k:=?_)|refine bx hs (k:=?_)|refine bs hs (k:=?_));intro b w hz hs)|refine qRg ?_|refine Nx.h ?_|refine qBo ?_|refine qCt ?_|refine qCf ?_|((with_reducible apply xs_guard);exact rfl;exact rfl;intro c hc;(fail_if_success have:true=c:=hc);(fail_if_success have:false=c:=hc);cases c)|(refine xc_if rfl (fun hc=>?_) (fun hc=>?_))|(refine xc_cond rfl (fun hc=>?_) (fun hc=>?_)))
    first | refine rt (hq := ?_) | refine rt' (hq := ?_)
    exact ⟨rfl, ho0.trans (hs.only0 rfl)⟩
end Go.Proofs.YtegoaabjccignaaGreatDoorX
