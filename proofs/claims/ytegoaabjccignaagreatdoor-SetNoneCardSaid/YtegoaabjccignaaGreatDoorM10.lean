/- A part of the proof: what its functions compute. -/
import Derived.Test.YtegoaabjccignaaGreatDoorM9
set_option linter.unusedVariables false
set_option linter.unusedSimpArgs false
set_option maxRecDepth 100000
namespace Go.Proofs.YtegoaabjccignaaGreatDoorX
open Go Go.RowKit
attribute [local irreducible] XS XC XA thenE blockE retE loopE loopS cutB cutN doneE SE
def wdV (o : Option Int) : Value := .tuple #[wv (o.getD 0), .bool o.isSome]
def ovL (m : Mn) (p : Pt) : Int := m.a * p.w - dist p m.b * m.w
def ovM (m : Mn) (p : Pt) : Option Int := if m.right = true ∧ m.n ≠ 0 ∧ p.right = true ∧ InW (m.a * p.w) ∧ InW (ovL m p) then some (ovL m p) else none
theorem ovM_in {m : Mn} {p : Pt} : InW ((ovM m p).getD 0) := by
  unfold ovM; split
  · rename_i h; exact h.2.2.2.2
  · decide
theorem i64_of {x : Int} (h : In64 x) : IntKind.i64.wrap x = x := by rw [wrap_i64]; unfold In64 at h; omega
theorem had_rng {m : Mn} {p : Pt} (hp : p.In) (h5 : m.right = true) (h6 : p.right = true) : InW (dist p m.b * m.w) ∧ -(9671406556917033397649408 + 1048576) ≤ dist p m.b ∧ dist p m.b ≤ 9671406556917033397649408 + 1048576 := by
  have h5 := mright_iff.1 h5
  have h6 := pright_iff.1 h6
  have h7 := sn_rng p.t m.b
  have h8 := mul_rng (w := p.w) (s := sn p.t m.b) (W := 1048576) (S := 9223372036854775808) (by omega) (by omega) (by omega) (by omega)
  have hr := hp.2.1.1
  have h9 : -(9671406556917033397649408 + 1048576) ≤ dist p m.b ∧ dist p m.b ≤ 9671406556917033397649408 + 1048576 := by unfold dist; omega
  have h10 := mul_rng (w := m.w) (s := dist p m.b) (W := 33554432) (S := 9671406556917033397649408 + 1048576) (by omega) (by omega) h9.1 h9.2
  have e := Int.mul_comm (dist p m.b) m.w
  exact ⟨by unfold InW; rw [e]; omega, h9⟩
set_option maxHeartbeats 4000000 in
theorem over_ret (m : Mn) (p : Pt) (hm : m.In) (hp' : p.In) (w0 : World) : Ret Tryz.prog 100 #[mv m, pv p] w0 fun v w' => v = wdV (ovM m p) ∧ Only [] w0 w' := by
  have hs := St.nil w0
  refine ret_of_xc Tryz.func100 (by kernel_rfl) rfl Tryz.ntmps100 rfl rfl rfl ?_
  repeat' (first|refine vs (k:=?_)|refine ps (k:=?_)|((first|refine st hs (k:=?_)|refine stA hs (k:=?_));intro w hs)|((first|refine al hs (k:=?_)|refine bx hs (k:=?_)|refine bs hs (k:=?_));intro b w hz hs)|refine qRg ?_|refine Nx.h ?_|refine qBo ?_|refine qCt ?_|refine qCf ?_|((with_reducible apply xs_guard);exact rfl;exact rfl;intro c hc;(fail_if_success have:true=c:=hc);(fail_if_success have:false=c:=hc);cases c)|(refine xc_if rfl (fun hc=>?_) (fun hc=>?_))|(refine xc_cond rfl (fun hc=>?_) (fun hc=>?_)))
  (with_reducible apply xs_call); exact rfl; exact rfl; exact mright_ret m _
  rintro v w' ⟨rfl, ho⟩; replace hs := hs.call0 ho; repeat' (first|refine vs (k:=?_)|refine ps (k:=?_)|((first|refine st hs (k:=?_)|refine stA hs (k:=?_));intro w hs)|((first|refine al hs (k:=?_)|refine bx hs (k:=?_)|refine bs hs (k:=?_));intro b w hz hs)|refine qRg ?_|refine Nx.h ?_|refine qBo ?_|refine qCt ?_|refine qCf ?_|((with_reducible apply xs_guard);exact rfl;exact rfl;intro c hc;(fail_if_success have:true=c:=hc);(fail_if_success have:false=c:=hc);cases c)|(refine xc_if rfl (fun hc=>?_) (fun hc=>?_))|(refine xc_cond rfl (fun hc=>?_) (fun hc=>?_)))
  · (with_reducible apply xs_call); exact rfl; exact rfl; exact pright_ret p _
    rintro v w' ⟨rfl, ho⟩; replace hs := hs.call0 ho; repeat' (first|refine vs (k:=?_)|refine ps (k:=?_)|((first|refine st hs (k:=?_)|refine stA hs (k:=?_));intro w hs)|((first|refine al hs (k:=?_)|refine bx hs (k:=?_)|refine bs hs (k:=?_));intro b w hz hs)|refine qRg ?_|refine Nx.h ?_|refine qBo ?_|refine qCt ?_|refine qCf ?_|((with_reducible apply xs_guard);exact rfl;exact rfl;intro c hc;(fail_if_success have:true=c:=hc);(fail_if_success have:false=c:=hc);cases c)|(refine xc_if rfl (fun hc=>?_) (fun hc=>?_))|(refine xc_cond rfl (fun hc=>?_) (fun hc=>?_)))
    · first | refine rt (hq := ?_) | refine rt' (hq := ?_)
      refine ⟨?_, hs.only0 rfl⟩
      have : ovM m p = none := by unfold ovM; rw [if_neg (fun h => absurd h.2.2.1 (by simpa using hc))]
      rw [this]; rfl
    · have h1 : m.right = true := by simpa using ‹(!m.right) = false›
      have h2 : p.right = true := by simpa using hc
      have h3 : m.n ≠ 0 := by simpa using ‹(m.n == 0) = false›
      have h5 := mright_iff.1 h1
      have h6 := pright_iff.1 h2
      have h7 := had_rng (m := m) hp' h1 h2
      have e1 : IntKind.i64.wrap p.w = p.w := i64_of ⟨by omega, by omega⟩
      have e2 : IntKind.i64.wrap m.w = m.w := i64_of ⟨by omega, by omega⟩
      (with_reducible apply xs_call); exact rfl; exact rfl; exact mul_t m.a (IntKind.i64.wrap p.w) hm.2.1 (by rw [e1]; exact ⟨by omega, by omega⟩) _
      rw [e1]
      rintro v w' ⟨rfl, ho⟩; replace hs := hs.call0 ho; repeat' (first|refine vs (k:=?_)|refine ps (k:=?_)|((first|refine st hs (k:=?_)|refine stA hs (k:=?_));intro w hs)|((first|refine al hs (k:=?_)|refine bx hs (k:=?_)|refine bs hs (k:=?_));intro b w hz hs)|refine qRg ?_|refine Nx.h ?_|refine qBo ?_|refine qCt ?_|refine qCf ?_|((with_reducible apply xs_guard);exact rfl;exact rfl;intro c hc;(fail_if_success have:true=c:=hc);(fail_if_success have:false=c:=hc);cases c)|(refine xc_if rfl (fun hc=>?_) (fun hc=>?_))|(refine xc_cond rfl (fun hc=>?_) (fun hc=>?_)))
      refine dr [] hs (k := ?_); intro hX w hs
      refine tk 0 hX (k := ?_)
      refine tk 1 hX (k := ?_)
      refine tk 2 hX (k := ?_)
      refine tk 4 hX (k := ?_)
      refine tk 5 hX (k := ?_)
      refine tk 6 hX (k := ?_)
      refine pd0 11 8 hs (k := ?_); intro f X w hp; have hs := hp.st
      apply xa_pend 3 11 (f := f) (X := X) hX hp; exact rfl; exact rfl; (first | (apply makes_alloc tabOk; exact rfl) | (apply makes_slice tabOk; exact rfl; exact rfl; exact rfl; exact rfl; exact rfl; (intro X; ((repeat (first | exact Bld.nil | (apply Bld.one; exact rfl; (conv => lhs; whnf); exact rfl; (repeat (first | exact PutL.nil | apply PutL.skip | apply PutL.cons))) | (apply Bld.agg; exact rfl; exact rfl; exact rfl; (repeat (first | exact PutL.nil | apply PutL.skip | apply PutL.cons))))))))); kernel_rfl; kernel_rfl; kernel_rfl; kernel_rfl; (intro X Y; (repeat (first | exact pgg_base | refine pgg_step ?_ (by exact rfl)))); (intro w' hs; ((first | exact se_hold hs.hold | exact se_hold (hold_sim hs.hold rfl) | exact se_hold (hold_sim hs.hold.tail rfl) | exact se_hold (hR hs rfl) | exact se_hold hs.hold.tail | exact se_hold hs.hold.tail.tail | exact se_hold hs.hold.tail.tail.tail | exact se_done rfl))); intro f X w hp; have hs := hp.st
      (with_reducible apply xs_call); exact rfl; exact rfl; exact dist_ret p m.b hp' _
      rintro v w' ⟨rfl, ho⟩; replace hp := hp.only ho; replace hs := hp.st; repeat' (first|refine vs (k:=?_)|refine ps (k:=?_)|((first|refine st hs (k:=?_)|refine stA hs (k:=?_));intro w hs)|((first|refine al hs (k:=?_)|refine bx hs (k:=?_)|refine bs hs (k:=?_));intro b w hz hs)|refine qRg ?_|refine Nx.h ?_|refine qBo ?_|refine qCt ?_|refine qCf ?_|((with_reducible apply xs_guard);exact rfl;exact rfl;intro c hc;(fail_if_success have:true=c:=hc);(fail_if_success have:false=c:=hc);cases c)|(refine xc_if rfl (fun hc=>?_) (fun hc=>?_))|(refine xc_cond rfl (fun hc=>?_) (fun hc=>?_)))
      refine dn (k := ?_)
      apply xa_pend 7 11 (f := f) (X := X) hX hp; exact rfl; exact rfl; (first | (apply makes_alloc tabOk; exact rfl) | (apply makes_slice tabOk; exact rfl; exact rfl; exact rfl; exact rfl; exact rfl; (intro X; ((repeat (first | exact Bld.nil | (apply Bld.one; exact rfl; (conv => lhs; whnf); exact rfl; (repeat (first | exact PutL.nil | apply PutL.skip | apply PutL.cons))) | (apply Bld.agg; exact rfl; exact rfl; exact rfl; (repeat (first | exact PutL.nil | apply PutL.skip | apply PutL.cons))))))))); kernel_rfl; kernel_rfl; kernel_rfl; kernel_rfl; (intro X Y; (repeat (first | exact pgg_base | refine pgg_step ?_ (by exact rfl)))); (intro w' hs; ((first | exact se_hold hs.hold | exact se_hold (hold_sim hs.hold rfl) | exact se_hold (hold_sim hs.hold.tail rfl) | exact se_hold (hR hs rfl) | exact se_hold hs.hold.tail | exact se_hold hs.hold.tail.tail | exact se_hold hs.hold.tail.tail.tail | exact se_done rfl))); intro f X w hp; have hs := hp.st
      (with_reducible apply xs_call); exact rfl; exact rfl; exact mul_ok (dist p m.b) (IntKind.i64.wrap m.w) (dist_in hp' _) (by rw [e2]; omega) (by rw [e2]; omega) (by rw [e2]; exact h7.1) _
      rw [e2]
      rintro v w' ⟨rfl, ho⟩; replace hp := hp.only ho; replace hs := hp.st; repeat' (first|refine vs (k:=?_)|refine ps (k:=?_)|((first|refine st hs (k:=?_)|refine stA hs (k:=?_));intro w hs)|((first|refine al hs (k:=?_)|refine bx hs (k:=?_)|refine bs hs (k:=?_));intro b w hz hs)|refine qRg ?_|refine Nx.h ?_|refine qBo ?_|refine qCt ?_|refine qCf ?_|((with_reducible apply xs_guard);exact rfl;exact rfl;intro c hc;(fail_if_success have:true=c:=hc);(fail_if_success have:false=c:=hc);cases c)|(refine xc_if rfl (fun hc=>?_) (fun hc=>?_))|(refine xc_cond rfl (fun hc=>?_) (fun hc=>?_)))
      refine dn (k := ?_)
      refine tk 8 hX (hc := by cases f <;> kernel_rfl) (k := ?_)
      refine tk 9 hX (hc := by cases f <;> kernel_rfl) (k := ?_)
      refine tk 10 hX (hc := by cases f <;> kernel_rfl) (k := ?_)
      apply xa_pendE 11 (f := f) (X := X) hX hp; exact rfl; (first | (apply makes_alloc tabOk; exact rfl) | (apply makes_slice tabOk; exact rfl; exact rfl; exact rfl; exact rfl; exact rfl; (intro X; ((repeat (first | exact Bld.nil | (apply Bld.one; exact rfl; (conv => lhs; whnf); exact rfl; (repeat (first | exact PutL.nil | apply PutL.skip | apply PutL.cons))) | (apply Bld.agg; exact rfl; exact rfl; exact rfl; (repeat (first | exact PutL.nil | apply PutL.skip | apply PutL.cons))))))))); kernel_rfl; kernel_rfl; (intro X Y; (repeat (first | exact pgg_base | refine pgg_step ?_ (by exact rfl)))); (intro w' hs; ((first | exact se_hold hs.hold | exact se_hold (hold_sim hs.hold rfl) | exact se_hold (hold_sim hs.hold.tail rfl) | exact se_hold (hR hs rfl) | exact se_hold hs.hold.tail | exact se_hold hs.hold.tail.tail | exact se_hold hs.hold.tail.tail.tail | exact se_done rfl))); intro b w hI hs
      refine dt 12 hX (k := ?_)
      repeat' (first|refine vs (k:=?_)|refine ps (k:=?_)|((first|refine st hs (k:=?_)|refine stA hs (k:=?_));intro w hs)|((first|refine al hs (k:=?_)|refine bx hs (k:=?_)|refine bs hs (k:=?_));intro b w hz hs)|refine qRg ?_|refine Nx.h ?_|refine qBo ?_|refine qCt ?_|refine qCf ?_|((with_reducible apply xs_guard);exact rfl;exact rfl;intro c hc;(fail_if_success have:true=c:=hc);(fail_if_success have:false=c:=hc);cases c)|(refine xc_if rfl (fun hc=>?_) (fun hc=>?_))|(refine xc_cond rfl (fun hc=>?_) (fun hc=>?_)))
      refine dn (k := ?_)
      refine tk 13 hX (k := ?_)
      refine en (k := ?_)
      repeat' (first|refine vs (k:=?_)|refine ps (k:=?_)|((first|refine st hs (k:=?_)|refine stA hs (k:=?_));intro w hs)|((first|refine al hs (k:=?_)|refine bx hs (k:=?_)|refine bs hs (k:=?_));intro b w hz hs)|refine qRg ?_|refine Nx.h ?_|refine qBo ?_|refine qCt ?_|refine qCf ?_|((with_reducible apply xs_guard);exact rfl;exact rfl;intro c hc;(fail_if_success have:true=c:=hc);(fail_if_success have:false=c:=hc);cases c)|(refine xc_if rfl (fun hc=>?_) (fun hc=>?_))|(refine xc_cond rfl (fun hc=>?_) (fun hc=>?_)))
      (with_reducible apply xs_call); exact rfl; exact rfl; exact sub_t (tot (m.a * p.w)) (dist p m.b * m.w) (tot_in _) h7.1 _
      rintro v w' ⟨rfl, ho⟩; replace hs := hs.call0 ho; repeat' (first|refine vs (k:=?_)|refine ps (k:=?_)|((first|refine st hs (k:=?_)|refine stA hs (k:=?_));intro w hs)|((first|refine al hs (k:=?_)|refine bx hs (k:=?_)|refine bs hs (k:=?_));intro b w hz hs)|refine qRg ?_|refine Nx.h ?_|refine qBo ?_|refine qCt ?_|refine qCf ?_|((with_reducible apply xs_guard);exact rfl;exact rfl;intro c hc;(fail_if_success have:true=c:=hc);(fail_if_success have:false=c:=hc);cases c)|(refine xc_if rfl (fun hc=>?_) (fun hc=>?_))|(refine xc_cond rfl (fun hc=>?_) (fun hc=>?_)))
      · have h8 : InW (m.a * p.w) := by simpa using ‹(!decide (InW (m.a * p.w))) = false›
        have e3 : tot (m.a * p.w) = m.a * p.w := if_pos h8
        first | refine rt (hq := ?_) | refine rt' (hq := ?_)
        refine ⟨?_, hs.only0 rfl⟩
        rw [e3] at hc
        have h9 : ¬ InW (ovL m p) := by unfold ovL; simpa using hc
        have : ovM m p = none := by unfold ovM; rw [if_neg (fun h => h9 h.2.2.2.2)]
        rw [this]; rfl
      · have h8 : InW (m.a * p.w) := by simpa using ‹(!decide (InW (m.a * p.w))) = false›
        have e3 : tot (m.a * p.w) = m.a * p.w := if_pos h8
        first | refine rt (hq := ?_) | refine rt' (hq := ?_)
        refine ⟨?_, hs.only0 rfl⟩
        rw [e3] at hc
        have h9 : InW (ovL m p) := by unfold ovL; simpa using hc
        have : ovM m p = some (ovL m p) := by unfold ovM; rw [if_pos ⟨h1, h3, h2, h8, h9⟩]
        have e4 : tot (m.a * p.w - dist p m.b * m.w) = ovL m p := if_pos h9
        rw [this, e3, e4]; rfl
      · first | refine rt (hq := ?_) | refine rt' (hq := ?_)
        refine ⟨?_, hs.only0 rfl⟩
        have h8 : ¬ InW (m.a * p.w) := by simpa using hc
        have : ovM m p = none := by unfold ovM; rw [if_neg (fun h => h8 h.2.2.2.1)]
        rw [this]; rfl
  · first | refine rt (hq := ?_) | refine rt' (hq := ?_)
    refine ⟨?_, hs.only0 rfl⟩
    have : ovM m p = none := by unfold ovM; rw [if_neg (fun h => h.2.1 (by simpa using hc))]
    rw [this]; rfl
  · first | refine rt (hq := ?_) | refine rt' (hq := ?_)
    refine ⟨?_, hs.only0 rfl⟩
    have : ovM m p = none := by unfold ovM; rw [if_neg (fun h => absurd h.1 (by simpa using hc))]
    rw [this]; rfl
theorem lsign_ret (m : Mn) (p : Pt) (hm : m.In) (hp' : p.In) (w0 : World) : Ret Tryz.prog 67 #[mv m, pv p] w0 fun v w' => v = .tuple #[.int .i64 (cmpI ((ovM m p).getD 0) 0), .bool (ovM m p).isSome] ∧ Only [] w0 w' := by
  have hs := St.nil w0
  refine ret_of_xc Tryz.func67 (by kernel_rfl) rfl Tryz.ntmps67 rfl rfl rfl ?_
  repeat' (first|refine vs (k:=?_)|refine ps (k:=?_)|((first|refine st hs (k:=?_)|refine stA hs (k:=?_));intro w hs)|((first|refine al hs (k:=?_)|refine bx hs (k:=?_)|refine bs hs (k:=?_));intro b w hz hs)|refine qRg ?_|refine Nx.h ?_|refine qBo ?_|refine qCt ?_|refine qCf ?_|((with_reducible apply xs_guard);exact rfl;exact rfl;intro c hc;(fail_if_success have:true=c:=hc);(fail_if_success have:false=c:=hc);cases c)|(refine xc_if rfl (fun hc=>?_) (fun hc=>?_))|(refine xc_cond rfl (fun hc=>?_) (fun hc=>?_)))
  (with_reducible apply xs_call); exact rfl; exact rfl; exact over_ret m p hm hp' _
  rintro v w' ⟨rfl, ho⟩; replace hs := hs.call0 ho; repeat' (first|refine vs (k:=?_)|refine ps (k:=?_)|((first|refine st hs (k:=?_)|refine stA hs (k:=?_));intro w hs)|((first|refine al hs (k:=?_)|refine bx hs (k:=?_)|refine bs hs (k:=?_));intro b w hz hs)|refine qRg ?_|refine Nx.h ?_|refine qBo ?_|refine qCt ?_|refine qCf ?_|((with_reducible apply xs_guard);exact rfl;exact rfl;intro c hc;(fail_if_success have:true=c:=hc);(fail_if_success have:false=c:=hc);cases c)|(refine xc_if rfl (fun hc=>?_) (fun hc=>?_))|(refine xc_cond rfl (fun hc=>?_) (fun hc=>?_)))
  (with_reducible apply xs_call); exact rfl; exact rfl; exact sign_ret ((ovM m p).getD 0) ovM_in _
  rintro v w' ⟨rfl, ho⟩; replace hs := hs.call0 ho; repeat' (first|refine vs (k:=?_)|refine ps (k:=?_)|((first|refine st hs (k:=?_)|refine stA hs (k:=?_));intro w hs)|((first|refine al hs (k:=?_)|refine bx hs (k:=?_)|refine bs hs (k:=?_));intro b w hz hs)|refine qRg ?_|refine Nx.h ?_|refine qBo ?_|refine qCt ?_|refine qCf ?_|((with_reducible apply xs_guard);exact rfl;exact rfl;intro c hc;(fail_if_success have:true=c:=hc);(fail_if_success have:false=c:=hc);cases c)|(refine xc_if rfl (fun hc=>?_) (fun hc=>?_))|(refine xc_cond rfl (fun hc=>?_) (fun hc=>?_)))
  first | refine rt (hq := ?_) | refine rt' (hq := ?_)
  exact ⟨rfl, hs.only0 rfl⟩
def elig (m : Mn) (p : Pt) : Bool := (ovM m p).isSome && decide (0 ≤ (ovM m p).getD 0)
theorem elig_ret (m : Mn) (p : Pt) (hm : m.In) (hp' : p.In) (w0 : World) : Ret Tryz.prog 40 #[mv m, pv p] w0 fun v w' => v = .bool (elig m p) ∧ Only [] w0 w' := by
  have hs := St.nil w0
  refine ret_of_xc Tryz.func40 (by kernel_rfl) rfl Tryz.ntmps40 rfl rfl rfl ?_
  repeat' (first|refine vs (k:=?_)|refine ps (k:=?_)|((first|refine st hs (k:=?_)|refine stA hs (k:=?_));intro w hs)|((first|refine al hs (k:=?_)|refine bx hs (k:=?_)|refine bs hs (k:=?_));intro b w hz hs)|refine qRg ?_|refine Nx.h ?_|refine qBo ?_|refine qCt ?_|refine qCf ?_|((with_reducible apply xs_guard);exact rfl;exact rfl;intro c hc;(fail_if_success have:true=c:=hc);(fail_if_success have:false=c:=hc);cases c)|(refine xc_if rfl (fun hc=>?_) (fun hc=>?_))|(refine xc_cond rfl (fun hc=>?_) (fun hc=>?_)))
  (with_reducible apply xs_call); exact rfl; exact rfl; exact lsign_ret m p hm hp' _
  rintro v w' ⟨rfl, ho⟩; replace hs := hs.call0 ho; repeat' (first|refine vs (k:=?_)|refine ps (k:=?_)|((first|refine st hs (k:=?_)|refine stA hs (k:=?_));intro w hs)|((first|refine al hs (k:=?_)|refine bx hs (k:=?_)|refine bs hs (k:=?_));intro b w hz hs)|refine qRg ?_|refine Nx.h ?_|refine qBo ?_|refine qCt ?_|refine qCf ?_|((with_reducible apply xs_guard);exact rfl;exact rfl;intro c hc;(fail_if_success have:true=c:=hc);(fail_if_success have:false=c:=hc);cases c)|(refine xc_if rfl (fun hc=>?_) (fun hc=>?_))|(refine xc_cond rfl (fun hc=>?_) (fun hc=>?_)))
  · first | refine rt (hq := ?_) | refine rt' (hq := ?_)
    refine ⟨?_, hs.only0 rfl⟩
    unfold elig; rw [hc]; rfl
  · first | refine rt (hq := ?_) | refine rt' (hq := ?_)
    refine ⟨?_, hs.only0 rfl⟩
    unfold elig; rw [hc]
    show Value.bool _ = Value.bool _
    congr 1
    rw [Bool.true_and]
    refine decide_eq_decide.2 ?_
    unfold cmpI; split
    · omega
    · split <;> omega
def rdM (m : Mn) (p : Pt) : Option Int := (ovM m p).map fun x => x / m.w
theorem read_ret (m : Mn) (p : Pt) (hm : m.In) (hp' : p.In) (w0 : World) : Ret Tryz.prog 73 #[mv m, pv p] w0 fun v w' => v = wdV (rdM m p) ∧ Only [] w0 w' := by
  have hs := St.nil w0
  refine ret_of_xc Tryz.func73 (by kernel_rfl) rfl Tryz.ntmps73 rfl rfl rfl ?_
  repeat' (first|refine vs (k:=?_)|refine ps (k:=?_)|((first|refine st hs (k:=?_)|refine stA hs (k:=?_));intro w hs)|((first|refine al hs (k:=?_)|refine bx hs (k:=?_)|refine bs hs (k:=?_));intro b w hz hs)|refine qRg ?_|refine Nx.h ?_|refine qBo ?_|refine qCt ?_|refine qCf ?_|((with_reducible apply xs_guard);exact rfl;exact rfl;intro c hc;(fail_if_success have:true=c:=hc);(fail_if_success have:false=c:=hc);cases c)|(refine xc_if rfl (fun hc=>?_) (fun hc=>?_))|(refine xc_cond rfl (fun hc=>?_) (fun hc=>?_)))
  (with_reducible apply xs_call); exact rfl; exact rfl; exact over_ret m p hm hp' _
  have hin := ovM_in (m := m) (p := p)
  have hU := hm.2.2.1
  unfold rdM
  cases ho : ovM m p with
  | none =>
    rintro v w' ⟨rfl, ho⟩; replace hs := hs.call0 ho; repeat' (first|refine vs (k:=?_)|refine ps (k:=?_)|((first|refine st hs (k:=?_)|refine stA hs (k:=?_));intro w hs)|((first|refine al hs (k:=?_)|refine bx hs (k:=?_)|refine bs hs (k:=?_));intro b w hz hs)|refine qRg ?_|refine Nx.h ?_|refine qBo ?_|refine qCt ?_|refine qCf ?_|((with_reducible apply xs_guard);exact rfl;exact rfl;intro c hc;(fail_if_success have:true=c:=hc);(fail_if_success have:false=c:=hc);cases c)|(refine xc_if rfl (fun hc=>?_) (fun hc=>?_))|(refine xc_cond rfl (fun hc=>?_) (fun hc=>?_)))
    first | refine rt (hq := ?_) | refine rt' (hq := ?_)
    exact ⟨rfl, hs.only0 rfl⟩
  | some x =>
    rw [ho] at hin
    have hw : 0 < m.w := by
      unfold ovM at ho; split at ho
      · rename_i h; have := mright_iff.1 h.1; omega
      · cases ho
    rintro v w' ⟨rfl, ho⟩; replace hs := hs.call0 ho; repeat' (first|refine vs (k:=?_)|refine ps (k:=?_)|((first|refine st hs (k:=?_)|refine stA hs (k:=?_));intro w hs)|((first|refine al hs (k:=?_)|refine bx hs (k:=?_)|refine bs hs (k:=?_));intro b w hz hs)|refine qRg ?_|refine Nx.h ?_|refine qBo ?_|refine qCt ?_|refine qCf ?_|((with_reducible apply xs_guard);exact rfl;exact rfl;intro c hc;(fail_if_success have:true=c:=hc);(fail_if_success have:false=c:=hc);cases c)|(refine xc_if rfl (fun hc=>?_) (fun hc=>?_))|(refine xc_cond rfl (fun hc=>?_) (fun hc=>?_)))
    (with_reducible apply xs_call); exact rfl; exact rfl; exact div_ok x m.w hin hw hU.2 _
    rintro v w' ⟨rfl, ho⟩; replace hs := hs.call0 ho; repeat' (first|refine vs (k:=?_)|refine ps (k:=?_)|((first|refine st hs (k:=?_)|refine stA hs (k:=?_));intro w hs)|((first|refine al hs (k:=?_)|refine bx hs (k:=?_)|refine bs hs (k:=?_));intro b w hz hs)|refine qRg ?_|refine Nx.h ?_|refine qBo ?_|refine qCt ?_|refine qCf ?_|((with_reducible apply xs_guard);exact rfl;exact rfl;intro c hc;(fail_if_success have:true=c:=hc);(fail_if_success have:false=c:=hc);cases c)|(refine xc_if rfl (fun hc=>?_) (fun hc=>?_))|(refine xc_cond rfl (fun hc=>?_) (fun hc=>?_)))
    first | refine rt (hq := ?_) | refine rt' (hq := ?_)
    exact ⟨rfl, hs.only0 rfl⟩
end Go.Proofs.YtegoaabjccignaaGreatDoorX

namespace Go.Proofs.YtegoaabjccignaaGreatDoorX
open Go Go.RowKit
attribute [local irreducible] XS XC XA thenE blockE retE loopE loopS cutB cutN doneE SE
def plD (m : Mn) (q lag : Int) : Int := m.a * q - lag * (m.w + q)
def plM (m : Mn) (clock q lag : Int) : Option Pt :=
  if m.right = true ∧ mayW q = true then (if m.n = 0 then some ⟨clock, 0, q⟩ else if InW (m.a * q) ∧ InW (plD m q lag) then atP m.b (plD m q lag / m.w) q else none) else none
theorem mayW_no {q : Int} (h : q < 1 ∨ 1048576 < q) : ¬ mayW q = true := fun h' => by have := mayW_iff.1 h'; omega
set_option maxHeartbeats 4000000 in
theorem place_ret (m : Mn) (clock q lag : Int) (hm : m.In) (hq : U32 q) (hl : In64 lag) (w0 : World) : Ret Tryz.prog 171 #[mv m, .int .u64 clock, .int .u32 q, .int .i64 lag] w0 fun v w' => v = ptV (plM m clock q lag) ∧ Only [] w0 w' := by
  have hs := St.nil w0
  refine ret_of_xc Tryz.func171 (by kernel_rfl) rfl Tryz.ntmps171 rfl rfl rfl ?_
  repeat' (first|refine vs (k:=?_)|refine ps (k:=?_)|((first|refine st hs (k:=?_)|refine stA hs (k:=?_));intro w hs)|((first|refine al hs (k:=?_)|refine bx hs (k:=?_)|refine bs hs (k:=?_));intro b w hz hs)|refine qRg ?_|refine Nx.h ?_|refine qBo ?_|refine qCt ?_|refine qCf ?_|((with_reducible apply xs_guard);exact rfl;exact rfl;intro c hc;(fail_if_success have:true=c:=hc);(fail_if_success have:false=c:=hc);cases c)|(refine xc_if rfl (fun hc=>?_) (fun hc=>?_))|(refine xc_cond rfl (fun hc=>?_) (fun hc=>?_)))
  (with_reducible apply xs_call); exact rfl; exact rfl; exact mright_ret m _
  rintro v w' ⟨rfl, ho⟩; replace hs := hs.call0 ho; repeat' (first|refine vs (k:=?_)|refine ps (k:=?_)|((first|refine st hs (k:=?_)|refine stA hs (k:=?_));intro w hs)|((first|refine al hs (k:=?_)|refine bx hs (k:=?_)|refine bs hs (k:=?_));intro b w hz hs)|refine qRg ?_|refine Nx.h ?_|refine qBo ?_|refine qCt ?_|refine qCf ?_|((with_reducible apply xs_guard);exact rfl;exact rfl;intro c hc;(fail_if_success have:true=c:=hc);(fail_if_success have:false=c:=hc);cases c)|(refine xc_if rfl (fun hc=>?_) (fun hc=>?_))|(refine xc_cond rfl (fun hc=>?_) (fun hc=>?_)))
  · first | refine rt (hq := ?_) | refine rt' (hq := ?_)
    refine ⟨?_, hs.only0 rfl⟩
    have : plM m clock q lag = none := by unfold plM; rw [if_neg (fun h => mayW_no (.inr (by omega)) h.2)]
    rw [this]; rfl
  · first | refine rt (hq := ?_) | refine rt' (hq := ?_)
    refine ⟨?_, hs.only0 rfl⟩
    have h1 : m.right = true := by simpa using ‹(!m.right) = false›
    have h2 := of_decide_eq_false ‹decide (q < 1) = false›
    have : plM m clock q lag = some ⟨clock, 0, q⟩ := by unfold plM; rw [if_pos ⟨h1, mayW_iff.2 (by omega)⟩, if_pos (by assumption)]
    rw [this]; rfl
  · have h1 : m.right = true := by simpa using ‹(!m.right) = false›
    have h2 := of_decide_eq_false ‹decide (q < 1) = false›
    have h3 : ¬ m.n = 0 := by assumption
    have h4 : mayW q = true := mayW_iff.2 (by omega)
    have h5 := mright_iff.1 h1
    have h6 := mayW_iff.1 h4
    obtain ⟨hl0, hl1⟩ := hl
    have e1 : IntKind.i64.wrap q = q := i64_of ⟨by omega, by omega⟩
    have e2 : IntKind.i64.wrap (IntKind.i64.wrap m.w + IntKind.i64.wrap q) = m.w + q := by rw [e1, i64_of (x := m.w) ⟨by omega, by omega⟩, i64_of ⟨by omega, by omega⟩]
    have h7 := mul_rng (w := m.w + q) (s := lag) (W := 34603008) (S := 9223372036854775808) (by omega) (by omega) (by omega) (by omega)
    have e3 := Int.mul_comm lag (m.w + q)
    have h8 : InW (lag * (m.w + q)) := by unfold InW; rw [e3]; omega
    have hev : plM m clock q lag = if InW (m.a * q) ∧ InW (plD m q lag) then atP m.b (plD m q lag / m.w) q else none := by unfold plM; rw [if_pos ⟨h1, h4⟩, if_neg h3]
    (with_reducible apply xs_call); exact rfl; exact rfl; exact mul_t m.a (IntKind.i64.wrap q) hm.2.1 (by rw [e1]; exact ⟨by omega, by omega⟩) _
    rw [e1]
    rintro v w' ⟨rfl, ho⟩; replace hs := hs.call0 ho; repeat' (first|refine vs (k:=?_)|refine ps (k:=?_)|((first|refine st hs (k:=?_)|refine stA hs (k:=?_));intro w hs)|((first|refine al hs (k:=?_)|refine bx hs (k:=?_)|refine bs hs (k:=?_));intro b w hz hs)|refine qRg ?_|refine Nx.h ?_|refine qBo ?_|refine qCt ?_|refine qCf ?_|((with_reducible apply xs_guard);exact rfl;exact rfl;intro c hc;(fail_if_success have:true=c:=hc);(fail_if_success have:false=c:=hc);cases c)|(refine xc_if rfl (fun hc=>?_) (fun hc=>?_))|(refine xc_cond rfl (fun hc=>?_) (fun hc=>?_)))
    refine dr [] hs (k := ?_); intro hX w hs
    refine tk 0 hX (k := ?_)
    refine tk 2 hX (k := ?_)
    refine tk 3 hX (k := ?_)
    refine tk 4 hX (k := ?_)
    refine tk 5 hX (k := ?_)
    refine tk 6 hX (k := ?_)
    refine tk 7 hX (k := ?_)
    refine xa_set 53 (congrArg (Value.int .i64) e2) ?_
    refine pd0 12 12 hs (k := ?_); intro f X w hp; have hs := hp.st
    apply xa_pend 1 12 (f := f) (X := X) hX hp; exact rfl; exact rfl; (first | (apply makes_alloc tabOk; exact rfl) | (apply makes_slice tabOk; exact rfl; exact rfl; exact rfl; exact rfl; exact rfl; (intro X; ((repeat (first | exact Bld.nil | (apply Bld.one; exact rfl; (conv => lhs; whnf); exact rfl; (repeat (first | exact PutL.nil | apply PutL.skip | apply PutL.cons))) | (apply Bld.agg; exact rfl; exact rfl; exact rfl; (repeat (first | exact PutL.nil | apply PutL.skip | apply PutL.cons))))))))); kernel_rfl; kernel_rfl; kernel_rfl; kernel_rfl; (intro X Y; (repeat (first | exact pgg_base | refine pgg_step ?_ (by exact rfl)))); (intro w' hs; ((first | exact se_hold hs.hold | exact se_hold (hold_sim hs.hold rfl) | exact se_hold (hold_sim hs.hold.tail rfl) | exact se_hold (hR hs rfl) | exact se_hold hs.hold.tail | exact se_hold hs.hold.tail.tail | exact se_hold hs.hold.tail.tail.tail | exact se_done rfl))); intro f X w hp; have hs := hp.st
    (with_reducible apply xs_call); exact rfl; exact rfl; exact of_ret lag hl0 hl1 _
    rintro v w' ⟨rfl, ho⟩; replace hp := hp.only ho; replace hs := hp.st; repeat' (first|refine vs (k:=?_)|refine ps (k:=?_)|((first|refine st hs (k:=?_)|refine stA hs (k:=?_));intro w hs)|((first|refine al hs (k:=?_)|refine bx hs (k:=?_)|refine bs hs (k:=?_));intro b w hz hs)|refine qRg ?_|refine Nx.h ?_|refine qBo ?_|refine qCt ?_|refine qCf ?_|((with_reducible apply xs_guard);exact rfl;exact rfl;intro c hc;(fail_if_success have:true=c:=hc);(fail_if_success have:false=c:=hc);cases c)|(refine xc_if rfl (fun hc=>?_) (fun hc=>?_))|(refine xc_cond rfl (fun hc=>?_) (fun hc=>?_)))
    refine dn (k := ?_)
    apply xa_pend 8 12 (f := f) (X := X) hX hp; exact rfl; exact rfl; (first | (apply makes_alloc tabOk; exact rfl) | (apply makes_slice tabOk; exact rfl; exact rfl; exact rfl; exact rfl; exact rfl; (intro X; ((repeat (first | exact Bld.nil | (apply Bld.one; exact rfl; (conv => lhs; whnf); exact rfl; (repeat (first | exact PutL.nil | apply PutL.skip | apply PutL.cons))) | (apply Bld.agg; exact rfl; exact rfl; exact rfl; (repeat (first | exact PutL.nil | apply PutL.skip | apply PutL.cons))))))))); kernel_rfl; kernel_rfl; kernel_rfl; kernel_rfl; (intro X Y; (repeat (first | exact pgg_base | refine pgg_step ?_ (by exact rfl)))); (intro w' hs; ((first | exact se_hold hs.hold | exact se_hold (hold_sim hs.hold rfl) | exact se_hold (hold_sim hs.hold.tail rfl) | exact se_hold (hR hs rfl) | exact se_hold hs.hold.tail | exact se_hold hs.hold.tail.tail | exact se_hold hs.hold.tail.tail.tail | exact se_done rfl))); intro f X w hp; have hs := hp.st
    (with_reducible apply xs_call); exact rfl; exact rfl; exact mul_ok lag (m.w + q) (by unfold InW; omega) (by omega) (by omega) h8 _
    rintro v w' ⟨rfl, ho⟩; replace hp := hp.only ho; replace hs := hp.st; repeat' (first|refine vs (k:=?_)|refine ps (k:=?_)|((first|refine st hs (k:=?_)|refine stA hs (k:=?_));intro w hs)|((first|refine al hs (k:=?_)|refine bx hs (k:=?_)|refine bs hs (k:=?_));intro b w hz hs)|refine qRg ?_|refine Nx.h ?_|refine qBo ?_|refine qCt ?_|refine qCf ?_|((with_reducible apply xs_guard);exact rfl;exact rfl;intro c hc;(fail_if_success have:true=c:=hc);(fail_if_success have:false=c:=hc);cases c)|(refine xc_if rfl (fun hc=>?_) (fun hc=>?_))|(refine xc_cond rfl (fun hc=>?_) (fun hc=>?_)))
    refine dn (k := ?_)
    refine tk 9 hX (hc := by cases f <;> kernel_rfl) (k := ?_)
    refine tk 10 hX (hc := by cases f <;> kernel_rfl) (k := ?_)
    refine tk 11 hX (hc := by cases f <;> kernel_rfl) (k := ?_)
    apply xa_pendE 12 (f := f) (X := X) hX hp; exact rfl; (first | (apply makes_alloc tabOk; exact rfl) | (apply makes_slice tabOk; exact rfl; exact rfl; exact rfl; exact rfl; exact rfl; (intro X; ((repeat (first | exact Bld.nil | (apply Bld.one; exact rfl; (conv => lhs; whnf); exact rfl; (repeat (first | exact PutL.nil | apply PutL.skip | apply PutL.cons))) | (apply Bld.agg; exact rfl; exact rfl; exact rfl; (repeat (first | exact PutL.nil | apply PutL.skip | apply PutL.cons))))))))); kernel_rfl; kernel_rfl; (intro X Y; (repeat (first | exact pgg_base | refine pgg_step ?_ (by exact rfl)))); (intro w' hs; ((first | exact se_hold hs.hold | exact se_hold (hold_sim hs.hold rfl) | exact se_hold (hold_sim hs.hold.tail rfl) | exact se_hold (hR hs rfl) | exact se_hold hs.hold.tail | exact se_hold hs.hold.tail.tail | exact se_hold hs.hold.tail.tail.tail | exact se_done rfl))); intro b w hI hs
    refine dt 13 hX (k := ?_)
    repeat' (first|refine vs (k:=?_)|refine ps (k:=?_)|((first|refine st hs (k:=?_)|refine stA hs (k:=?_));intro w hs)|((first|refine al hs (k:=?_)|refine bx hs (k:=?_)|refine bs hs (k:=?_));intro b w hz hs)|refine qRg ?_|refine Nx.h ?_|refine qBo ?_|refine qCt ?_|refine qCf ?_|((with_reducible apply xs_guard);exact rfl;exact rfl;intro c hc;(fail_if_success have:true=c:=hc);(fail_if_success have:false=c:=hc);cases c)|(refine xc_if rfl (fun hc=>?_) (fun hc=>?_))|(refine xc_cond rfl (fun hc=>?_) (fun hc=>?_)))
    refine dn (k := ?_)
    refine tk 14 hX (k := ?_)
    refine en (k := ?_)
    repeat' (first|refine vs (k:=?_)|refine ps (k:=?_)|((first|refine st hs (k:=?_)|refine stA hs (k:=?_));intro w hs)|((first|refine al hs (k:=?_)|refine bx hs (k:=?_)|refine bs hs (k:=?_));intro b w hz hs)|refine qRg ?_|refine Nx.h ?_|refine qBo ?_|refine qCt ?_|refine qCf ?_|((with_reducible apply xs_guard);exact rfl;exact rfl;intro c hc;(fail_if_success have:true=c:=hc);(fail_if_success have:false=c:=hc);cases c)|(refine xc_if rfl (fun hc=>?_) (fun hc=>?_))|(refine xc_cond rfl (fun hc=>?_) (fun hc=>?_)))
    (with_reducible apply xs_call); exact rfl; exact rfl; exact sub_t (tot (m.a * q)) (lag * (m.w + q)) (tot_in _) h8 _
    rintro v w' ⟨rfl, ho⟩; replace hs := hs.call0 ho; repeat' (first|refine vs (k:=?_)|refine ps (k:=?_)|((first|refine st hs (k:=?_)|refine stA hs (k:=?_));intro w hs)|((first|refine al hs (k:=?_)|refine bx hs (k:=?_)|refine bs hs (k:=?_));intro b w hz hs)|refine qRg ?_|refine Nx.h ?_|refine qBo ?_|refine qCt ?_|refine qCf ?_|((with_reducible apply xs_guard);exact rfl;exact rfl;intro c hc;(fail_if_success have:true=c:=hc);(fail_if_success have:false=c:=hc);cases c)|(refine xc_if rfl (fun hc=>?_) (fun hc=>?_))|(refine xc_cond rfl (fun hc=>?_) (fun hc=>?_)))
    · have h9 : InW (m.a * q) := by simpa using ‹(!decide (InW (m.a * q))) = false›
      have e4 : tot (m.a * q) = m.a * q := if_pos h9
      first | refine rt (hq := ?_) | refine rt' (hq := ?_)
      refine ⟨?_, hs.only0 rfl⟩
      rw [e4] at hc
      have h10 : ¬ InW (plD m q lag) := by unfold plD; simpa using hc
      rw [hev, if_neg (fun h => h10 h.2)]; rfl
    · have h9 : InW (m.a * q) := by simpa using ‹(!decide (InW (m.a * q))) = false›
      have e4 : tot (m.a * q) = m.a * q := if_pos h9
      rw [e4] at hc
      have h10 : InW (plD m q lag) := by unfold plD; simpa using hc
      have e5 : tot (tot (m.a * q) - lag * (m.w + q)) = plD m q lag := by rw [e4]; exact if_pos h10
      (with_reducible apply xs_call); exact rfl; exact rfl; exact div_ok (tot (tot (m.a * q) - lag * (m.w + q))) m.w (tot_in _) (by omega) (by omega) _
      rw [e5]
      rintro v w' ⟨rfl, ho⟩; replace hs := hs.call0 ho; repeat' (first|refine vs (k:=?_)|refine ps (k:=?_)|((first|refine st hs (k:=?_)|refine stA hs (k:=?_));intro w hs)|((first|refine al hs (k:=?_)|refine bx hs (k:=?_)|refine bs hs (k:=?_));intro b w hz hs)|refine qRg ?_|refine Nx.h ?_|refine qBo ?_|refine qCt ?_|refine qCf ?_|((with_reducible apply xs_guard);exact rfl;exact rfl;intro c hc;(fail_if_success have:true=c:=hc);(fail_if_success have:false=c:=hc);cases c)|(refine xc_if rfl (fun hc=>?_) (fun hc=>?_))|(refine xc_cond rfl (fun hc=>?_) (fun hc=>?_)))
      (with_reducible apply xs_call); exact rfl; exact rfl; exact at_ret m.b (plD m q lag / m.w) q (div_in h10 (by omega)) _
      rintro v w' ⟨rfl, ho⟩; replace hs := hs.call0 ho; repeat' (first|refine vs (k:=?_)|refine ps (k:=?_)|((first|refine st hs (k:=?_)|refine stA hs (k:=?_));intro w hs)|((first|refine al hs (k:=?_)|refine bx hs (k:=?_)|refine bs hs (k:=?_));intro b w hz hs)|refine qRg ?_|refine Nx.h ?_|refine qBo ?_|refine qCt ?_|refine qCf ?_|((with_reducible apply xs_guard);exact rfl;exact rfl;intro c hc;(fail_if_success have:true=c:=hc);(fail_if_success have:false=c:=hc);cases c)|(refine xc_if rfl (fun hc=>?_) (fun hc=>?_))|(refine xc_cond rfl (fun hc=>?_) (fun hc=>?_)))
      first | refine rt (hq := ?_) | refine rt' (hq := ?_)
      refine ⟨?_, hs.only0 rfl⟩
      rw [hev, if_pos ⟨h9, h10⟩]; rfl
    · first | refine rt (hq := ?_) | refine rt' (hq := ?_)
      refine ⟨?_, hs.only0 rfl⟩
      have h9 : ¬ InW (m.a * q) := by simpa using hc
      rw [hev, if_neg (fun h => h9 h.1)]; rfl
  · first | refine rt (hq := ?_) | refine rt' (hq := ?_)
    refine ⟨?_, hs.only0 rfl⟩
    have : plM m clock q lag = none := by unfold plM; rw [if_neg (fun h => mayW_no (.inl (by simpa using hc)) h.2)]
    rw [this]; rfl
  · first | refine rt (hq := ?_) | refine rt' (hq := ?_)
    refine ⟨?_, hs.only0 rfl⟩
    have : plM m clock q lag = none := by unfold plM; rw [if_neg (fun h => absurd h.1 (by simpa using hc))]
    rw [this]; rfl
def weB (m : Mn) (p : Pt) (q : Int) : Int := m.a * (q - p.w)
def weD (m : Mn) (p : Pt) (q : Int) : Int := dist p m.b + weB m p q / m.w
def weM (m : Mn) (p : Pt) (q : Int) : Option Pt :=
  if m.right = true ∧ m.n ≠ 0 ∧ p.right = true ∧ mayW q = true ∧ InW (weB m p q) ∧ InW (weD m p q) then atP m.b (weD m p q) q else none
set_option maxHeartbeats 4000000 in
theorem weigh_ret (m : Mn) (p : Pt) (q : Int) (hm : m.In) (hp' : p.In) (hq : U32 q) (w0 : World) : Ret Tryz.prog 167 #[mv m, pv p, .int .u32 q] w0 fun v w' => v = ptV (weM m p q) ∧ Only [] w0 w' := by
  have hs := St.nil w0
  refine ret_of_xc Tryz.func167 (by kernel_rfl) rfl Tryz.ntmps167 rfl rfl rfl ?_
  repeat' (first|refine vs (k:=?_)|refine ps (k:=?_)|((first|refine st hs (k:=?_)|refine stA hs (k:=?_));intro w hs)|((first|refine al hs (k:=?_)|refine bx hs (k:=?_)|refine bs hs (k:=?_));intro b w hz hs)|refine qRg ?_|refine Nx.h ?_|refine qBo ?_|refine qCt ?_|refine qCf ?_|((with_reducible apply xs_guard);exact rfl;exact rfl;intro c hc;(fail_if_success have:true=c:=hc);(fail_if_success have:false=c:=hc);cases c)|(refine xc_if rfl (fun hc=>?_) (fun hc=>?_))|(refine xc_cond rfl (fun hc=>?_) (fun hc=>?_)))
  (with_reducible apply xs_call); exact rfl; exact rfl; exact mright_ret m _
  rintro v w' ⟨rfl, ho⟩; replace hs := hs.call0 ho; repeat' (first|refine vs (k:=?_)|refine ps (k:=?_)|((first|refine st hs (k:=?_)|refine stA hs (k:=?_));intro w hs)|((first|refine al hs (k:=?_)|refine bx hs (k:=?_)|refine bs hs (k:=?_));intro b w hz hs)|refine qRg ?_|refine Nx.h ?_|refine qBo ?_|refine qCt ?_|refine qCf ?_|((with_reducible apply xs_guard);exact rfl;exact rfl;intro c hc;(fail_if_success have:true=c:=hc);(fail_if_success have:false=c:=hc);cases c)|(refine xc_if rfl (fun hc=>?_) (fun hc=>?_))|(refine xc_cond rfl (fun hc=>?_) (fun hc=>?_)))
  · (with_reducible apply xs_call); exact rfl; exact rfl; exact pright_ret p _
    rintro v w' ⟨rfl, ho⟩; replace hs := hs.call0 ho; repeat' (first|refine vs (k:=?_)|refine ps (k:=?_)|((first|refine st hs (k:=?_)|refine stA hs (k:=?_));intro w hs)|((first|refine al hs (k:=?_)|refine bx hs (k:=?_)|refine bs hs (k:=?_));intro b w hz hs)|refine qRg ?_|refine Nx.h ?_|refine qBo ?_|refine qCt ?_|refine qCf ?_|((with_reducible apply xs_guard);exact rfl;exact rfl;intro c hc;(fail_if_success have:true=c:=hc);(fail_if_success have:false=c:=hc);cases c)|(refine xc_if rfl (fun hc=>?_) (fun hc=>?_))|(refine xc_cond rfl (fun hc=>?_) (fun hc=>?_)))
    · (with_reducible apply xs_call); exact rfl; exact rfl; exact pright_ret ⟨0, 0, q⟩ _
      rintro v w' ⟨rfl, ho⟩; replace hs := hs.call0 ho; repeat' (first|refine vs (k:=?_)|refine ps (k:=?_)|((first|refine st hs (k:=?_)|refine stA hs (k:=?_));intro w hs)|((first|refine al hs (k:=?_)|refine bx hs (k:=?_)|refine bs hs (k:=?_));intro b w hz hs)|refine qRg ?_|refine Nx.h ?_|refine qBo ?_|refine qCt ?_|refine qCf ?_|((with_reducible apply xs_guard);exact rfl;exact rfl;intro c hc;(fail_if_success have:true=c:=hc);(fail_if_success have:false=c:=hc);cases c)|(refine xc_if rfl (fun hc=>?_) (fun hc=>?_))|(refine xc_cond rfl (fun hc=>?_) (fun hc=>?_)))
      · first | refine rt (hq := ?_) | refine rt' (hq := ?_)
        refine ⟨?_, hs.only0 rfl⟩
        have : weM m p q = none := by
          unfold weM; rw [if_neg (fun h => ?_)]
          have h1 : (⟨0, 0, q⟩ : Pt).right = false := by simpa using hc
          have h2 := mayW_iff.1 h.2.2.2.1
          have h3 : (⟨0, 0, q⟩ : Pt).right = true := pright_iff.2 ⟨h2.1, h2.2, by show (0 : Int) < q; omega⟩
          rw [h1] at h3; cases h3
        rw [this]; rfl
      · have h1 : m.right = true := by simpa using ‹(!m.right) = false›
        have h2 : p.right = true := by simpa using ‹(!p.right) = false›
        have h3 : m.n ≠ 0 := by simpa using ‹(m.n == 0) = false›
        have h4' : (⟨0, 0, q⟩ : Pt).right = true := by simpa using hc
        have h4 : mayW q = true := by have := pright_iff.1 h4'; exact mayW_iff.2 ⟨this.1, this.2.1⟩
        have h5 := mright_iff.1 h1
        have h6 := pright_iff.1 h2
        have h6' := mayW_iff.1 h4
        have e1 : IntKind.i64.wrap (IntKind.i64.wrap q - IntKind.i64.wrap p.w) = q - p.w := by rw [i64_of (x := q) ⟨by omega, by omega⟩, i64_of (x := p.w) ⟨by omega, by omega⟩, i64_of ⟨by omega, by omega⟩]
        (with_reducible apply xs_call); exact rfl; exact rfl; exact mul_t m.a (IntKind.i64.wrap (IntKind.i64.wrap q - IntKind.i64.wrap p.w)) hm.2.1 (by rw [e1]; exact ⟨by omega, by omega⟩) _
        rw [e1]
        rintro v w' ⟨rfl, ho⟩; replace hs := hs.call0 ho; repeat' (first|refine vs (k:=?_)|refine ps (k:=?_)|((first|refine st hs (k:=?_)|refine stA hs (k:=?_));intro w hs)|((first|refine al hs (k:=?_)|refine bx hs (k:=?_)|refine bs hs (k:=?_));intro b w hz hs)|refine qRg ?_|refine Nx.h ?_|refine qBo ?_|refine qCt ?_|refine qCf ?_|((with_reducible apply xs_guard);exact rfl;exact rfl;intro c hc;(fail_if_success have:true=c:=hc);(fail_if_success have:false=c:=hc);cases c)|(refine xc_if rfl (fun hc=>?_) (fun hc=>?_))|(refine xc_cond rfl (fun hc=>?_) (fun hc=>?_)))
        · first | refine rt (hq := ?_) | refine rt' (hq := ?_)
          refine ⟨?_, hs.only0 rfl⟩
          have h8 : ¬ InW (weB m p q) := by unfold weB; simpa using hc
          have : weM m p q = none := by unfold weM; rw [if_neg (fun h => h8 h.2.2.2.2.1)]
          rw [this]; rfl
        · have h8 : InW (weB m p q) := by unfold weB; simpa using hc
          have e2 : tot (m.a * (q - p.w)) = weB m p q := if_pos h8
          (with_reducible apply xs_call); exact rfl; exact rfl; exact div_ok (tot (m.a * (q - p.w))) m.w (tot_in _) (by omega) (by omega) _
          rw [e2]
          rintro v w' ⟨rfl, ho⟩; replace hs := hs.call0 ho; repeat' (first|refine vs (k:=?_)|refine ps (k:=?_)|((first|refine st hs (k:=?_)|refine stA hs (k:=?_));intro w hs)|((first|refine al hs (k:=?_)|refine bx hs (k:=?_)|refine bs hs (k:=?_));intro b w hz hs)|refine qRg ?_|refine Nx.h ?_|refine qBo ?_|refine qCt ?_|refine qCf ?_|((with_reducible apply xs_guard);exact rfl;exact rfl;intro c hc;(fail_if_success have:true=c:=hc);(fail_if_success have:false=c:=hc);cases c)|(refine xc_if rfl (fun hc=>?_) (fun hc=>?_))|(refine xc_cond rfl (fun hc=>?_) (fun hc=>?_)))
          refine dr [] hs (k := ?_); intro hX w hs
          refine tk 0 hX (k := ?_)
          refine tk 1 hX (k := ?_)
          refine tk 2 hX (k := ?_)
          refine tk 4 hX (k := ?_)
          refine pd0 9 13 hs (k := ?_); intro f X w hp; have hs := hp.st
          apply xa_pend 3 9 (f := f) (X := X) hX hp; exact rfl; exact rfl; (first | (apply makes_alloc tabOk; exact rfl) | (apply makes_slice tabOk; exact rfl; exact rfl; exact rfl; exact rfl; exact rfl; (intro X; ((repeat (first | exact Bld.nil | (apply Bld.one; exact rfl; (conv => lhs; whnf); exact rfl; (repeat (first | exact PutL.nil | apply PutL.skip | apply PutL.cons))) | (apply Bld.agg; exact rfl; exact rfl; exact rfl; (repeat (first | exact PutL.nil | apply PutL.skip | apply PutL.cons))))))))); kernel_rfl; kernel_rfl; kernel_rfl; kernel_rfl; (intro X Y; (repeat (first | exact pgg_base | refine pgg_step ?_ (by exact rfl)))); (intro w' hs; ((first | exact se_hold hs.hold | exact se_hold (hold_sim hs.hold rfl) | exact se_hold (hold_sim hs.hold.tail rfl) | exact se_hold (hR hs rfl) | exact se_hold hs.hold.tail | exact se_hold hs.hold.tail.tail | exact se_hold hs.hold.tail.tail.tail | exact se_done rfl))); intro f X w hp; have hs := hp.st
          (with_reducible apply xs_call); exact rfl; exact rfl; exact dist_ret p m.b hp' _
          rintro v w' ⟨rfl, ho⟩; replace hp := hp.only ho; replace hs := hp.st; repeat' (first|refine vs (k:=?_)|refine ps (k:=?_)|((first|refine st hs (k:=?_)|refine stA hs (k:=?_));intro w hs)|((first|refine al hs (k:=?_)|refine bx hs (k:=?_)|refine bs hs (k:=?_));intro b w hz hs)|refine qRg ?_|refine Nx.h ?_|refine qBo ?_|refine qCt ?_|refine qCf ?_|((with_reducible apply xs_guard);exact rfl;exact rfl;intro c hc;(fail_if_success have:true=c:=hc);(fail_if_success have:false=c:=hc);cases c)|(refine xc_if rfl (fun hc=>?_) (fun hc=>?_))|(refine xc_cond rfl (fun hc=>?_) (fun hc=>?_)))
          refine dn (k := ?_)
          apply xa_pend 5 9 (f := f) (X := X) hX hp; exact rfl; exact rfl; (first | (apply makes_alloc tabOk; exact rfl) | (apply makes_slice tabOk; exact rfl; exact rfl; exact rfl; exact rfl; exact rfl; (intro X; ((repeat (first | exact Bld.nil | (apply Bld.one; exact rfl; (conv => lhs; whnf); exact rfl; (repeat (first | exact PutL.nil | apply PutL.skip | apply PutL.cons))) | (apply Bld.agg; exact rfl; exact rfl; exact rfl; (repeat (first | exact PutL.nil | apply PutL.skip | apply PutL.cons))))))))); kernel_rfl; kernel_rfl; kernel_rfl; kernel_rfl; (intro X Y; (repeat (first | exact pgg_base | refine pgg_step ?_ (by exact rfl)))); (intro w' hs; ((first | exact se_hold hs.hold | exact se_hold (hold_sim hs.hold rfl) | exact se_hold (hold_sim hs.hold.tail rfl) | exact se_hold (hR hs rfl) | exact se_hold hs.hold.tail | exact se_hold hs.hold.tail.tail | exact se_hold hs.hold.tail.tail.tail | exact se_done rfl))); intro f X w hp; have hs := hp.st
          (with_reducible apply xs_call); exact rfl; exact rfl; exact add_t (dist p m.b) (weB m p q / m.w) (dist_in hp' _) (div_in h8 (by omega)) _
          rintro v w' ⟨rfl, ho⟩; replace hp := hp.only ho; replace hs := hp.st; repeat' (first|refine vs (k:=?_)|refine ps (k:=?_)|((first|refine st hs (k:=?_)|refine stA hs (k:=?_));intro w hs)|((first|refine al hs (k:=?_)|refine bx hs (k:=?_)|refine bs hs (k:=?_));intro b w hz hs)|refine qRg ?_|refine Nx.h ?_|refine qBo ?_|refine qCt ?_|refine qCf ?_|((with_reducible apply xs_guard);exact rfl;exact rfl;intro c hc;(fail_if_success have:true=c:=hc);(fail_if_success have:false=c:=hc);cases c)|(refine xc_if rfl (fun hc=>?_) (fun hc=>?_))|(refine xc_cond rfl (fun hc=>?_) (fun hc=>?_)))
          refine dn (k := ?_)
          refine tk 6 hX (hc := by cases f <;> kernel_rfl) (k := ?_)
          refine tk 7 hX (hc := by cases f <;> kernel_rfl) (k := ?_)
          refine tk 8 hX (hc := by cases f <;> kernel_rfl) (k := ?_)
          apply xa_pendE 9 (f := f) (X := X) hX hp; exact rfl; (first | (apply makes_alloc tabOk; exact rfl) | (apply makes_slice tabOk; exact rfl; exact rfl; exact rfl; exact rfl; exact rfl; (intro X; ((repeat (first | exact Bld.nil | (apply Bld.one; exact rfl; (conv => lhs; whnf); exact rfl; (repeat (first | exact PutL.nil | apply PutL.skip | apply PutL.cons))) | (apply Bld.agg; exact rfl; exact rfl; exact rfl; (repeat (first | exact PutL.nil | apply PutL.skip | apply PutL.cons))))))))); kernel_rfl; kernel_rfl; (intro X Y; (repeat (first | exact pgg_base | refine pgg_step ?_ (by exact rfl)))); (intro w' hs; ((first | exact se_hold hs.hold | exact se_hold (hold_sim hs.hold rfl) | exact se_hold (hold_sim hs.hold.tail rfl) | exact se_hold (hR hs rfl) | exact se_hold hs.hold.tail | exact se_hold hs.hold.tail.tail | exact se_hold hs.hold.tail.tail.tail | exact se_done rfl))); intro b w hI hs
          refine dt 10 hX (k := ?_)
          repeat' (first|refine vs (k:=?_)|refine ps (k:=?_)|((first|refine st hs (k:=?_)|refine stA hs (k:=?_));intro w hs)|((first|refine al hs (k:=?_)|refine bx hs (k:=?_)|refine bs hs (k:=?_));intro b w hz hs)|refine qRg ?_|refine Nx.h ?_|refine qBo ?_|refine qCt ?_|refine qCf ?_|((with_reducible apply xs_guard);exact rfl;exact rfl;intro c hc;(fail_if_success have:true=c:=hc);(fail_if_success have:false=c:=hc);cases c)|(refine xc_if rfl (fun hc=>?_) (fun hc=>?_))|(refine xc_cond rfl (fun hc=>?_) (fun hc=>?_)))
          refine dn (k := ?_)
          refine tk 11 hX (k := ?_)
          refine en (k := ?_)
          repeat' (first|refine vs (k:=?_)|refine ps (k:=?_)|((first|refine st hs (k:=?_)|refine stA hs (k:=?_));intro w hs)|((first|refine al hs (k:=?_)|refine bx hs (k:=?_)|refine bs hs (k:=?_));intro b w hz hs)|refine qRg ?_|refine Nx.h ?_|refine qBo ?_|refine qCt ?_|refine qCf ?_|((with_reducible apply xs_guard);exact rfl;exact rfl;intro c hc;(fail_if_success have:true=c:=hc);(fail_if_success have:false=c:=hc);cases c)|(refine xc_if rfl (fun hc=>?_) (fun hc=>?_))|(refine xc_cond rfl (fun hc=>?_) (fun hc=>?_)))
          · first | refine rt (hq := ?_) | refine rt' (hq := ?_)
            refine ⟨?_, hs.only0 rfl⟩
            have h9 : ¬ InW (weD m p q) := by unfold weD; simpa using hc
            have : weM m p q = none := by unfold weM; rw [if_neg (fun h => h9 h.2.2.2.2.2)]
            rw [this]; rfl
          · have h9 : InW (weD m p q) := by unfold weD; simpa using hc
            have e3 : tot (dist p m.b + weB m p q / m.w) = weD m p q := if_pos h9
            (with_reducible apply xs_call); exact rfl; exact rfl; exact at_ret m.b (tot (dist p m.b + weB m p q / m.w)) q (tot_in _) _
            rw [e3]
            rintro v w' ⟨rfl, ho⟩; replace hs := hs.call0 ho; repeat' (first|refine vs (k:=?_)|refine ps (k:=?_)|((first|refine st hs (k:=?_)|refine stA hs (k:=?_));intro w hs)|((first|refine al hs (k:=?_)|refine bx hs (k:=?_)|refine bs hs (k:=?_));intro b w hz hs)|refine qRg ?_|refine Nx.h ?_|refine qBo ?_|refine qCt ?_|refine qCf ?_|((with_reducible apply xs_guard);exact rfl;exact rfl;intro c hc;(fail_if_success have:true=c:=hc);(fail_if_success have:false=c:=hc);cases c)|(refine xc_if rfl (fun hc=>?_) (fun hc=>?_))|(refine xc_cond rfl (fun hc=>?_) (fun hc=>?_)))
            first | refine rt (hq := ?_) | refine rt' (hq := ?_)
            refine ⟨?_, hs.only0 rfl⟩
            have : weM m p q = atP m.b (weD m p q) q := by unfold weM; rw [if_pos ⟨h1, h3, h2, h4, h8, h9⟩]
            rw [this]; rfl
    · first | refine rt (hq := ?_) | refine rt' (hq := ?_)
      refine ⟨?_, hs.only0 rfl⟩
      have : weM m p q = none := by unfold weM; rw [if_neg (fun h => absurd h.2.2.1 (by simpa using hc))]
      rw [this]; rfl
  · first | refine rt (hq := ?_) | refine rt' (hq := ?_)
    refine ⟨?_, hs.only0 rfl⟩
    have : weM m p q = none := by unfold weM; rw [if_neg (fun h => h.2.1 (by simpa using hc))]
    rw [this]; rfl
  · first | refine rt (hq := ?_) | refine rt' (hq := ?_)
    refine ⟨?_, hs.only0 rfl⟩
    have : weM m p q = none := by unfold weM; rw [if_neg (fun h => absurd h.1 (by simpa using hc))]
    rw [this]; rfl
end Go.Proofs.YtegoaabjccignaaGreatDoorX

namespace Go.Proofs.YtegoaabjccignaaGreatDoorX
open Go Go.RowKit
open IB (IT ITsAt flatT)
attribute [local irreducible] XS XC XA thenE blockE retE loopE loopS cutB cutN doneE SE
structure Qs where
  m : Mn
  t : RB IT
  f : Int → Option IT
  n : Nat
  c : Int
abbrev queueO (m : Mn) (tb mb : Nat) (c : Int) : Obj := .cells #[.int .u64 m.b, .int .i64 (m.a / 18446744073709551616), .int .u64 (m.a % 18446744073709551616), .int .u64 m.w, .int .i64 m.n, .pointer (some ⟨tb, 0, none⟩), .map (some mb), .int .u64 c] 83 (0, 0)
def vals (f : Int → Option IT) : Int → Option Value := fun i => (f i).map fun a => iv a.1
def updI (f : Int → Option IT) (i : Int) (a : Option IT) : Int → Option IT := fun j => bif decide (j = i) then a else f j
theorem vals_upd (f : Int → Option IT) (i : Int) (a : Option IT) : updF (vals f) i (a.map fun a => iv a.1) = vals (updI f i a) := by
  funext j
  unfold updF vals updI
  cases decide (j = i) <;> rfl
theorem vals_isSome (f : Int → Option IT) (i : Int) : (vals f i).isSome = (f i).isSome := by unfold vals; cases f i <;> rfl
def QAt (w : World) (qb : Nat) (s : Qs) (F : List Nat) : Prop :=
  ∃ tb mb Ft, F = qb :: mb :: Ft ∧ w.heap[qb]? = some (queueO s.m tb mb s.c) ∧ MapAt w mb (vals s.f) s.n ∧ IB.Obj6 w tb s.t Ft ∧ s.m.In ∧ U64 s.c
theorem QAt.keepD {w w' : World} {qb : Nat} {s : Qs} {F G : List Nat} (h : QAt w qb s F) (ho : Only G w w') (hd : ∀ k ∈ F, k ∉ G) : QAt w' qb s F := by
  obtain ⟨tb, mb, Ft, rfl, h1, h2, h3, h4⟩ := h
  exact ⟨tb, mb, Ft, rfl, ho.block h1 (hd qb (by simp)), h2.keep ho (hd mb (by simp)), h3.keepD ho (fun k hk => hd k (by simp [hk])), h4⟩
theorem QAt.only {w w' : World} {qb : Nat} {s : Qs} {F : List Nat} (h : QAt w qb s F) (ho : Only [] w w') : QAt w' qb s F := h.keepD ho (by simp)
theorem QAt.lt {w : World} {qb : Nat} {s : Qs} {F : List Nat} (h : QAt w qb s F) : ∀ k ∈ F, k < w.heap.size := by
  obtain ⟨tb, mb, Ft, rfl, h1, h2, h3, h4⟩ := h
  intro k hk
  simp only [List.mem_cons] at hk
  rcases hk with rfl | rfl | hk
  · exact lt_of_block h1
  · exact h2.lt
  · exact h3.lt k hk
theorem QAt.not {w : World} {qb : Nat} {s : Qs} {F : List Nat} (h : QAt w qb s F) {b : Nat} {cs : Array Value} {ty : Nat} {fz : Nat × Nat} (hb : w.heap[b]? = some (.cells cs ty fz)) (h1 : ty ≠ 147) (h2 : ty ≠ 140) (h3 : ty ≠ 83) : b ∉ F := fun hm => by
  obtain ⟨tb, mb, Ft, rfl, k1, k2, k3, k4⟩ := h
  simp only [List.mem_cons] at hm
  rcases hm with rfl | rfl | hm
  · exact blocks_ne hb k1 h3 rfl
  · exact k2.ne hb rfl
  · exact k3.not hb h1 h2 hm
theorem qb_not {w : World} {qb tb : Nat} {t : RB IT} {Ft : List Nat} (h : IB.Obj6 w tb t Ft) {cs : Array Value} {fz : Nat × Nat} (hb : w.heap[qb]? = some (.cells cs 83 fz)) : qb ∉ Ft := h.not hb (by decide) (by decide)
theorem mb_not {w : World} {mb tb c : Nat} {t : RB IT} {Ft : List Nat} {f : Int → Option Value} (h : IB.Obj6 w tb t Ft) (hM : MapAt w mb f c) : mb ∉ Ft := fun hm => by
  obtain ⟨p, fp, rfl, k1, k2, k3⟩ := h
  rcases List.mem_cons.1 hm with rfl | hm
  · exact hM.ne k1 rfl
  · obtain ⟨cs', fz', k4⟩ := k2.nodes mb hm
    exact hM.ne k4 rfl
def nowQ (s : Qs) : Int := bif decide (s.t.list.length = 0) then s.c else (flM s.m).getD 0
theorem nowQ_in {s : Qs} (h : U64 s.c) : U64 (nowQ s) := by
  unfold nowQ
  cases decide (s.t.list.length = 0)
  · rw [cond_false]
    unfold flM
    split
    · exact lat_in _ _
    · decide
  · exact h
def centreQ (s : Qs) : Qs := { s with m := (rebM s.m (nowQ s)).getD .zero }
theorem getD_in {o : Option Mn} (h : ∀ m, o = some m → m.In) : (o.getD .zero).In := by
  cases o with
  | none => decide
  | some m => exact h m rfl
theorem qlen_ret (qb : Nat) (s : Qs) (F : List Nat) (w0 : World) (h : QAt w0 qb s F) : Ret Tryz.prog 36 #[.pointer (some ⟨qb, 0, none⟩)] w0 fun v w' => v = .int .i64 (s.t.list.length : Nat) ∧ Only [] w0 w' := by
  obtain ⟨tb, mb, Ft, rfl, h1, h2, h3, h4⟩ := h
  have hs := (St.nil w0).track h1 (by simp)
  refine ret_of_xc Tryz.func36 (by kernel_rfl) rfl Tryz.ntmps36 rfl rfl rfl ?_
  repeat' (first|refine vs (k:=?_)|refine ps (k:=?_)|((first|refine st hs (k:=?_)|refine stA hs (k:=?_));intro w hs)|((first|refine al hs (k:=?_)|refine bx hs (k:=?_)|refine bs hs (k:=?_));intro b w hz hs)|refine qRg ?_|refine Nx.h ?_|refine qBo ?_|refine qCt ?_|refine qCf ?_|((with_reducible apply xs_guard);exact rfl;exact rfl;intro c hc;(fail_if_success have:true=c:=hc);(fail_if_success have:false=c:=hc);cases c)|(refine xc_if rfl (fun hc=>?_) (fun hc=>?_))|(refine xc_cond rfl (fun hc=>?_) (fun hc=>?_)))
  have ho := hs.onlyF [] (by simp [h1]) (by simp [D0])
  (with_reducible apply xs_call); exact rfl; exact rfl; exact IB.rbLen_ret tb s.t Ft _ (h3.only ho)
  rintro v w' ⟨rfl, ho⟩; replace hs := hs.call0 ho; repeat' (first|refine vs (k:=?_)|refine ps (k:=?_)|((first|refine st hs (k:=?_)|refine stA hs (k:=?_));intro w hs)|((first|refine al hs (k:=?_)|refine bx hs (k:=?_)|refine bs hs (k:=?_));intro b w hz hs)|refine qRg ?_|refine Nx.h ?_|refine qBo ?_|refine qCt ?_|refine qCf ?_|((with_reducible apply xs_guard);exact rfl;exact rfl;intro c hc;(fail_if_success have:true=c:=hc);(fail_if_success have:false=c:=hc);cases c)|(refine xc_if rfl (fun hc=>?_) (fun hc=>?_))|(refine xc_cond rfl (fun hc=>?_) (fun hc=>?_)))
  first | refine rt (hq := ?_) | refine rt' (hq := ?_)
  exact ⟨rfl, hs.onlyF [] (by simp [h1]) (by simp [D0])⟩
theorem qitems_ret (qb : Nat) (s : Qs) (F : List Nat) (w0 : World) (h : QAt w0 qb s F) (hlen : s.t.list.length ≤ 1000000) : Ret Tryz.prog 51 #[.pointer (some ⟨qb, 0, none⟩)] w0 fun v w' => (∃ G, SlV w' 34 7 v s.t.list.length (flatT s.t.list) G ∧ ∀ k ∈ G, w0.heap.size ≤ k) ∧ Only [] w0 w' := by
  obtain ⟨tb, mb, Ft, rfl, h1, h2, h3, h4⟩ := h
  have hs := (St.nil w0).track h1 (by simp)
  refine ret_of_xc Tryz.func51 (by kernel_rfl) rfl Tryz.ntmps51 rfl rfl rfl ?_
  repeat' (first|refine vs (k:=?_)|refine ps (k:=?_)|((first|refine st hs (k:=?_)|refine stA hs (k:=?_));intro w hs)|((first|refine al hs (k:=?_)|refine bx hs (k:=?_)|refine bs hs (k:=?_));intro b w hz hs)|refine qRg ?_|refine Nx.h ?_|refine qBo ?_|refine qCt ?_|refine qCf ?_|((with_reducible apply xs_guard);exact rfl;exact rfl;intro c hc;(fail_if_success have:true=c:=hc);(fail_if_success have:false=c:=hc);cases c)|(refine xc_if rfl (fun hc=>?_) (fun hc=>?_))|(refine xc_cond rfl (fun hc=>?_) (fun hc=>?_)))
  have ho := hs.onlyF [] (by simp [h1]) (by simp [D0])
  (with_reducible apply xs_call); exact rfl; exact rfl; exact IB.rbAll_ret tb s.t Ft _ (h3.only ho) hlen
  rintro v w' ⟨⟨G, hG, hn⟩, ho'⟩; replace hs := hs.call0 ho'
  have hz := ho.size
  repeat' (first|refine vs (k:=?_)|refine ps (k:=?_)|((first|refine st hs (k:=?_)|refine stA hs (k:=?_));intro w hs)|((first|refine al hs (k:=?_)|refine bx hs (k:=?_)|refine bs hs (k:=?_));intro b w hz hs)|refine qRg ?_|refine Nx.h ?_|refine qBo ?_|refine qCt ?_|refine qCf ?_|((with_reducible apply xs_guard);exact rfl;exact rfl;intro c hc;(fail_if_success have:true=c:=hc);(fail_if_success have:false=c:=hc);cases c)|(refine xc_if rfl (fun hc=>?_) (fun hc=>?_))|(refine xc_cond rfl (fun hc=>?_) (fun hc=>?_)))
  first | refine rt (hq := ?_) | refine rt' (hq := ?_)
  exact ⟨⟨G, hG, fun k hk => by have := hn k hk; omega⟩, hs.onlyF [] (by simp [h1]) (by simp [D0])⟩
theorem qnow_ret (qb : Nat) (s : Qs) (F : List Nat) (w0 : World) (h : QAt w0 qb s F) : Ret Tryz.prog 18 #[.pointer (some ⟨qb, 0, none⟩)] w0 fun v w' => v = .int .u64 (nowQ s) ∧ Only [] w0 w' := by
  have hq := h
  obtain ⟨tb, mb, Ft, rfl, h1, h2, h3, h4⟩ := h
  have hs := (St.nil w0).track h1 (by simp)
  refine ret_of_xc Tryz.func18 (by kernel_rfl) rfl Tryz.ntmps18 rfl rfl rfl ?_
  repeat' (first|refine vs (k:=?_)|refine ps (k:=?_)|((first|refine st hs (k:=?_)|refine stA hs (k:=?_));intro w hs)|((first|refine al hs (k:=?_)|refine bx hs (k:=?_)|refine bs hs (k:=?_));intro b w hz hs)|refine qRg ?_|refine Nx.h ?_|refine qBo ?_|refine qCt ?_|refine qCf ?_|((with_reducible apply xs_guard);exact rfl;exact rfl;intro c hc;(fail_if_success have:true=c:=hc);(fail_if_success have:false=c:=hc);cases c)|(refine xc_if rfl (fun hc=>?_) (fun hc=>?_))|(refine xc_cond rfl (fun hc=>?_) (fun hc=>?_)))
  have ho := hs.onlyF [] (by simp [h1]) (by simp [D0])
  (with_reducible apply xs_call); exact rfl; exact rfl; exact qlen_ret qb s _ _ (hq.only ho)
  rintro v w' ⟨rfl, ho⟩; replace hs := hs.call0 ho; repeat' (first|refine vs (k:=?_)|refine ps (k:=?_)|((first|refine st hs (k:=?_)|refine stA hs (k:=?_));intro w hs)|((first|refine al hs (k:=?_)|refine bx hs (k:=?_)|refine bs hs (k:=?_));intro b w hz hs)|refine qRg ?_|refine Nx.h ?_|refine qBo ?_|refine qCt ?_|refine qCf ?_|((with_reducible apply xs_guard);exact rfl;exact rfl;intro c hc;(fail_if_success have:true=c:=hc);(fail_if_success have:false=c:=hc);cases c)|(refine xc_if rfl (fun hc=>?_) (fun hc=>?_))|(refine xc_cond rfl (fun hc=>?_) (fun hc=>?_)))
  · first | refine rt (hq := ?_) | refine rt' (hq := ?_)
    refine ⟨?_, hs.onlyF [] (by simp [h1]) (by simp [D0])⟩
    have e : s.t.list.length = 0 := by omega
    unfold nowQ; rw [decide_eq_true e]; rfl
  · (with_reducible apply xs_call); exact rfl; exact rfl; exact floor_ret s.m h4.1 _
    rintro v w' ⟨rfl, ho⟩; replace hs := hs.call0 ho; repeat' (first|refine vs (k:=?_)|refine ps (k:=?_)|((first|refine st hs (k:=?_)|refine stA hs (k:=?_));intro w hs)|((first|refine al hs (k:=?_)|refine bx hs (k:=?_)|refine bs hs (k:=?_));intro b w hz hs)|refine qRg ?_|refine Nx.h ?_|refine qBo ?_|refine qCt ?_|refine qCf ?_|((with_reducible apply xs_guard);exact rfl;exact rfl;intro c hc;(fail_if_success have:true=c:=hc);(fail_if_success have:false=c:=hc);cases c)|(refine xc_if rfl (fun hc=>?_) (fun hc=>?_))|(refine xc_cond rfl (fun hc=>?_) (fun hc=>?_)))
    first | refine rt (hq := ?_) | refine rt' (hq := ?_)
    refine ⟨?_, hs.onlyF [] (by simp [h1]) (by simp [D0])⟩
    have e : ¬ s.t.list.length = 0 := by omega
    unfold nowQ; rw [decide_eq_false e]; rfl
theorem qcentre_ret (qb : Nat) (s : Qs) (F : List Nat) (w0 : World) (h : QAt w0 qb s F) : Ret Tryz.prog 76 #[.pointer (some ⟨qb, 0, none⟩)] w0 fun v w' => QAt w' qb (centreQ s) F ∧ Only [qb] w0 w' := by
  have hq := h
  obtain ⟨tb, mb, Ft, rfl, h1, h2, h3, h4, h5⟩ := h
  have hs := (St.nil w0).track h1 (by simp)
  refine ret_of_xc Tryz.func76 (by kernel_rfl) rfl Tryz.ntmps76 rfl rfl rfl ?_
  repeat' (first|refine vs (k:=?_)|refine ps (k:=?_)|((first|refine st hs (k:=?_)|refine stA hs (k:=?_));intro w hs)|((first|refine al hs (k:=?_)|refine bx hs (k:=?_)|refine bs hs (k:=?_));intro b w hz hs)|refine qRg ?_|refine Nx.h ?_|refine qBo ?_|refine qCt ?_|refine qCf ?_|((with_reducible apply xs_guard);exact rfl;exact rfl;intro c hc;(fail_if_success have:true=c:=hc);(fail_if_success have:false=c:=hc);cases c)|(refine xc_if rfl (fun hc=>?_) (fun hc=>?_))|(refine xc_cond rfl (fun hc=>?_) (fun hc=>?_)))
  refine dr [13] hs (k := ?_); intro hX w hs
  refine tk 0 hX (k := ?_)
  refine tk 1 hX (k := ?_)
  refine tk 2 hX (k := ?_)
  refine tk 3 hX (k := ?_)
  refine tk 4 hX (k := ?_)
  refine tk 5 hX (k := ?_)
  refine dt 6 hX (k := ?_)
  have ho := hs.onlyF [] (by simp [h1]) (by simp [D0])
  (with_reducible apply xs_call); exact rfl; exact rfl; exact qnow_ret qb s _ _ (hq.only ho)
  rintro v w' ⟨rfl, ho⟩; replace hs := hs.call0 ho; repeat' (first|refine vs (k:=?_)|refine ps (k:=?_)|((first|refine st hs (k:=?_)|refine stA hs (k:=?_));intro w hs)|((first|refine al hs (k:=?_)|refine bx hs (k:=?_)|refine bs hs (k:=?_));intro b w hz hs)|refine qRg ?_|refine Nx.h ?_|refine qBo ?_|refine qCt ?_|refine qCf ?_|((with_reducible apply xs_guard);exact rfl;exact rfl;intro c hc;(fail_if_success have:true=c:=hc);(fail_if_success have:false=c:=hc);cases c)|(refine xc_if rfl (fun hc=>?_) (fun hc=>?_))|(refine xc_cond rfl (fun hc=>?_) (fun hc=>?_)))
  refine dn (k := ?_)
  refine dt 7 hX (k := ?_)
  (with_reducible apply xs_call); exact rfl; exact rfl; exact rebase_ret s.m (nowQ s) h4 _
  rintro v w' ⟨rfl, ho⟩; replace hs := hs.call0 ho; repeat' (first|refine vs (k:=?_)|refine ps (k:=?_)|((first|refine st hs (k:=?_)|refine stA hs (k:=?_));intro w hs)|((first|refine al hs (k:=?_)|refine bx hs (k:=?_)|refine bs hs (k:=?_));intro b w hz hs)|refine qRg ?_|refine Nx.h ?_|refine qBo ?_|refine qCt ?_|refine qCf ?_|((with_reducible apply xs_guard);exact rfl;exact rfl;intro c hc;(fail_if_success have:true=c:=hc);(fail_if_success have:false=c:=hc);cases c)|(refine xc_if rfl (fun hc=>?_) (fun hc=>?_))|(refine xc_cond rfl (fun hc=>?_) (fun hc=>?_)))
  refine dn (k := ?_)
  refine tk 8 hX (k := ?_)
  refine tk 9 hX (k := ?_)
  refine tk 10 hX (k := ?_)
  refine tk 11 hX (k := ?_)
  refine tk 12 hX (k := ?_)
  refine dt 13 hX (k := ?_)
  repeat' (first|refine vs (k:=?_)|refine ps (k:=?_)|((first|refine st hs (k:=?_)|refine stA hs (k:=?_));intro w hs)|((first|refine al hs (k:=?_)|refine bx hs (k:=?_)|refine bs hs (k:=?_));intro b w hz hs)|refine qRg ?_|refine Nx.h ?_|refine qBo ?_|refine qCt ?_|refine qCf ?_|((with_reducible apply xs_guard);exact rfl;exact rfl;intro c hc;(fail_if_success have:true=c:=hc);(fail_if_success have:false=c:=hc);cases c)|(refine xc_if rfl (fun hc=>?_) (fun hc=>?_))|(refine xc_cond rfl (fun hc=>?_) (fun hc=>?_)))
  refine dn (k := ?_)
  refine en (k := ?_)
  repeat' (first|refine vs (k:=?_)|refine ps (k:=?_)|((first|refine st hs (k:=?_)|refine stA hs (k:=?_));intro w hs)|((first|refine al hs (k:=?_)|refine bx hs (k:=?_)|refine bs hs (k:=?_));intro b w hz hs)|refine qRg ?_|refine Nx.h ?_|refine qBo ?_|refine qCt ?_|refine qCf ?_|((with_reducible apply xs_guard);exact rfl;exact rfl;intro c hc;(fail_if_success have:true=c:=hc);(fail_if_success have:false=c:=hc);cases c)|(refine xc_if rfl (fun hc=>?_) (fun hc=>?_))|(refine xc_cond rfl (fun hc=>?_) (fun hc=>?_)))
  first | refine rt' (vs := []) (hr := resOk_nil) (hq := ?_) | refine rt (vs := []) (hr := resOk_nil) (hq := ?_)
  have ho2 := hs.onlyF [qb] (by simp) (by simp [D0])
  exact ⟨⟨tb, mb, Ft, rfl, hs.get At.head, h2.keep ho2 (fun hm => by obtain rfl := List.mem_singleton.1 hm; exact h2.ne h1 rfl), h3.keepD ho2 (fun k hk hm => by obtain rfl := List.mem_singleton.1 hm; exact qb_not h3 h1 hk), getD_in (fun m e => rebM_in h4 (nowQ_in h5) e), h5⟩, ho2⟩
end Go.Proofs.YtegoaabjccignaaGreatDoorX

namespace Go.Proofs.YtegoaabjccignaaGreatDoorX
open Go Go.RowKit
open IB (IT ITsAt flatT)
attribute [local irreducible] XS XC XA thenE blockE retE loopE loopS cutB cutN doneE SE
abbrev itQ (a : It) : Obj := .cells #[.int .u64 a.p.t, .int .u32 a.p.r, .int .u32 a.p.w, .int .i64 a.id, .int .u64 a.d.t, .int .u32 a.d.r, .int .u32 a.d.w] 34 (0, 0)
def preM (s : Qs) (a : IT) : Mn := bif decide (s.t.list.length = 0) then ⟨a.1.p.t, 0, 0, 0⟩ else s.m
def putQ1 (s : Qs) (a : IT) : Qs := ⟨(addM (preM s a) a.1.p).getD .zero, IB.RB.insert s.t a, updI s.f a.1.id (some a), if (s.f a.1.id).isSome then s.n else s.n + 1, s.c⟩
def putQ (s : Qs) (a : IT) : Qs := centreQ (putQ1 s a)
theorem preM_in {s : Qs} {a : IT} (h : s.m.In) : (preM s a).In := by
  unfold preM
  cases decide (s.t.list.length = 0)
  · exact h
  · exact ⟨a.2.1.1, inW0, u640, in640⟩
structure QP (w : World) (qb tb mb : Nat) (Ft : List Nat) (s : Qs) : Prop where
  q : w.heap[qb]? = some (queueO s.m tb mb s.c)
  M : MapAt w mb (vals s.f) s.n
  T : IB.Obj6 w tb s.t Ft
theorem QP.qm {w : World} {qb tb mb : Nat} {Ft : List Nat} {s : Qs} (h : QP w qb tb mb Ft s) : qb ≠ mb := h.M.ne h.q
theorem QP.qT {w : World} {qb tb mb : Nat} {Ft : List Nat} {s : Qs} (h : QP w qb tb mb Ft s) : qb ∉ Ft := qb_not h.T h.q
theorem QP.mT {w : World} {qb tb mb : Nat} {Ft : List Nat} {s : Qs} (h : QP w qb tb mb Ft s) : mb ∉ Ft := mb_not h.T h.M
theorem QP.only {w w' : World} {qb tb mb : Nat} {Ft : List Nat} {s : Qs} (h : QP w qb tb mb Ft s) (ho : Only [] w w') : QP w' qb tb mb Ft s := ⟨ho.block h.q (by simp), h.M.keep ho (by simp), h.T.only ho⟩
theorem QP.own {w w' : World} {qb tb mb : Nat} {Ft : List Nat} {s : Qs} {m : Mn} {c : Int} (h : QP w qb tb mb Ft s) (ho : Only [qb] w w') (hq : w'.heap[qb]? = some (queueO m tb mb c)) : QP w' qb tb mb Ft { s with m := m, c := c } :=
  ⟨hq, h.M.keep ho (fun hm => h.qm (List.mem_singleton.1 hm).symm), h.T.keepD ho (fun k hk hm => by obtain rfl := List.mem_singleton.1 hm; exact h.qT hk)⟩
set_option maxHeartbeats 4000000 in
theorem qput_ret (qb : Nat) (s : Qs) (F : List Nat) (a : IT) (w0 : World) (h : QAt w0 qb s F) (hlen : s.t.list.length + 1 ≤ 1000000) (hn : s.n < 1000000) :
    Ret Tryz.prog 52 #[.pointer (some ⟨qb, 0, none⟩), iv a.1] w0 fun v w' => ∃ F', QAt w' qb (putQ s a) F' ∧ (∀ k ∈ F', k ∈ F ∨ w0.heap.size ≤ k) ∧ Only F w0 w' := by
  have hq := h
  obtain ⟨tb, mb, Ft, rfl, h1, h2, h3, h4, h5⟩ := h
  have hs := (St.nil w0).track h1 (by simp)
  have lt1 := lt_of_block h1
  have ltF := hq.lt
  have hin := preM_in (s := s) (a := a) h4
  refine ret_of_xc Tryz.func52 (by kernel_rfl) rfl Tryz.ntmps52 rfl rfl rfl ?_
  refine xc_seq ?_
  refine xc_region ?_ ?_; exact rfl
  refine bx hs (k := ?_); intro bq wq hzq hs
  refine XS.nil ?_
  refine then_of ?_
  refine xc_seq ?_
  have hbq := hs.new (bq, true) (by simp) rfl
  simp only at hbq
  have hP0 : QP w0 qb tb mb Ft s := ⟨h1, h2, h3⟩
  refine xc_cutN (fun _ : Unit => [(0, .pointer (some ⟨qb, 0, none⟩)), (3, .pointer (some ⟨bq, 0, none⟩))]) (fun _ w => QP w qb tb mb Ft { s with m := preM s a } ∧ Only [qb] w0 w ∧ w.heap[bq]? = some (itQ a.1)) ?_ ?_
  · repeat' (first|refine vs (k:=?_)|refine ps (k:=?_)|((first|refine st hs (k:=?_)|refine stA hs (k:=?_));intro w hs)|((first|refine al hs (k:=?_)|refine bx hs (k:=?_)|refine bs hs (k:=?_));intro b w hz hs)|refine qRg ?_|refine Nx.h ?_|refine qBo ?_|refine qCt ?_|refine qCf ?_|((with_reducible apply xs_guard);exact rfl;exact rfl;intro c hc;(fail_if_success have:true=c:=hc);(fail_if_success have:false=c:=hc);cases c)|(refine xc_if rfl (fun hc=>?_) (fun hc=>?_))|(refine xc_cond rfl (fun hc=>?_) (fun hc=>?_)))
    have ho := hs.onlyF [] (by simp [h1]) (by simp [D0])
    (with_reducible apply xs_call); exact rfl; exact rfl; exact qlen_ret qb s _ _ (hq.only ho)
    rintro v w' ⟨rfl, ho⟩; replace hs := hs.call0 ho; repeat' (first|refine vs (k:=?_)|refine ps (k:=?_)|((first|refine st hs (k:=?_)|refine stA hs (k:=?_));intro w hs)|((first|refine al hs (k:=?_)|refine bx hs (k:=?_)|refine bs hs (k:=?_));intro b w hz hs)|refine qRg ?_|refine Nx.h ?_|refine qBo ?_|refine qCt ?_|refine qCf ?_|((with_reducible apply xs_guard);exact rfl;exact rfl;intro c hc;(fail_if_success have:true=c:=hc);(fail_if_success have:false=c:=hc);cases c)|(refine xc_if rfl (fun hc=>?_) (fun hc=>?_))|(refine xc_cond rfl (fun hc=>?_) (fun hc=>?_)))
    · have e : s.t.list.length = 0 := by omega
      have ho2 := hs.onlyF [qb] (by simp) (by simp [D0])
      have e2 : preM s a = ⟨a.1.p.t, 0, 0, 0⟩ := by unfold preM; rw [decide_eq_true e]; rfl
      rw [e2]
      exact cutN_normal () (by (repeat (first | exact agree_nil | (apply agree_cons; exact rfl)))) ⟨hP0.own ho2 (hs.get (At.tail At.head)), ho2, hs.get At.head⟩
    · have e : ¬ s.t.list.length = 0 := by omega
      have ho2 := hs.onlyF [] (by simp [h1]) (by simp [D0])
      have e2 : preM s a = s.m := by unfold preM; rw [decide_eq_false e]; rfl
      rw [e2]
      exact cutN_normal () (by (repeat (first | exact agree_nil | (apply agree_cons; exact rfl)))) ⟨hP0.only ho2, ho2.weaken (by simp), hs.get At.head⟩
  clear hs
  rintro _ env wA ⟨hP, hoA, hQ⟩
  have n1 : bq ≠ qb := blocks_ne hQ hP.q (by decide)
  have hs := ((St.nil wA).track hP.q (by simp)).track hQ (by simpa using n1)
  repeat' (first|refine vs (k:=?_)|refine ps (k:=?_)|((first|refine st hs (k:=?_)|refine stA hs (k:=?_));intro w hs)|((first|refine al hs (k:=?_)|refine bx hs (k:=?_)|refine bs hs (k:=?_));intro b w hz hs)|refine qRg ?_|refine Nx.h ?_|refine qBo ?_|refine qCt ?_|refine qCf ?_|((with_reducible apply xs_guard);exact rfl;exact rfl;intro c hc;(fail_if_success have:true=c:=hc);(fail_if_success have:false=c:=hc);cases c)|(refine xc_if rfl (fun hc=>?_) (fun hc=>?_))|(refine xc_cond rfl (fun hc=>?_) (fun hc=>?_)))
  refine dr [13] hs (k := ?_); intro hX w hs
  refine tk 0 hX (k := ?_)
  refine tk 1 hX (k := ?_)
  refine tk 2 hX (k := ?_)
  refine tk 3 hX (k := ?_)
  refine tk 4 hX (k := ?_)
  refine tk 5 hX (k := ?_)
  refine tk 6 hX (k := ?_)
  refine dt 7 hX (k := ?_)
  (with_reducible apply xs_call); exact rfl; exact rfl; exact madd_ret (preM s a) a.1.p hin a.2.1 _
  rintro v w' ⟨rfl, ho⟩; replace hs := hs.call0 ho; repeat' (first|refine vs (k:=?_)|refine ps (k:=?_)|((first|refine st hs (k:=?_)|refine stA hs (k:=?_));intro w hs)|((first|refine al hs (k:=?_)|refine bx hs (k:=?_)|refine bs hs (k:=?_));intro b w hz hs)|refine qRg ?_|refine Nx.h ?_|refine qBo ?_|refine qCt ?_|refine qCf ?_|((with_reducible apply xs_guard);exact rfl;exact rfl;intro c hc;(fail_if_success have:true=c:=hc);(fail_if_success have:false=c:=hc);cases c)|(refine xc_if rfl (fun hc=>?_) (fun hc=>?_))|(refine xc_cond rfl (fun hc=>?_) (fun hc=>?_)))
  refine dn (k := ?_)
  refine tk 8 hX (k := ?_)
  refine tk 9 hX (k := ?_)
  refine tk 10 hX (k := ?_)
  refine tk 11 hX (k := ?_)
  refine tk 12 hX (k := ?_)
  refine dt 13 hX (k := ?_)
  repeat' (first|refine vs (k:=?_)|refine ps (k:=?_)|((first|refine st hs (k:=?_)|refine stA hs (k:=?_));intro w hs)|((first|refine al hs (k:=?_)|refine bx hs (k:=?_)|refine bs hs (k:=?_));intro b w hz hs)|refine qRg ?_|refine Nx.h ?_|refine qBo ?_|refine qCt ?_|refine qCf ?_|((with_reducible apply xs_guard);exact rfl;exact rfl;intro c hc;(fail_if_success have:true=c:=hc);(fail_if_success have:false=c:=hc);cases c)|(refine xc_if rfl (fun hc=>?_) (fun hc=>?_))|(refine xc_cond rfl (fun hc=>?_) (fun hc=>?_)))
  refine dn (k := ?_)
  refine en (k := ?_)
  repeat' (first|refine vs (k:=?_)|refine ps (k:=?_)|((first|refine st hs (k:=?_)|refine stA hs (k:=?_));intro w hs)|((first|refine al hs (k:=?_)|refine bx hs (k:=?_)|refine bs hs (k:=?_));intro b w hz hs)|refine qRg ?_|refine Nx.h ?_|refine qBo ?_|refine qCt ?_|refine qCf ?_|((with_reducible apply xs_guard);exact rfl;exact rfl;intro c hc;(fail_if_success have:true=c:=hc);(fail_if_success have:false=c:=hc);cases c)|(refine xc_if rfl (fun hc=>?_) (fun hc=>?_))|(refine xc_cond rfl (fun hc=>?_) (fun hc=>?_)))
  have ho2 := hs.onlyF [qb] (by simp [hQ]) (by simp [D0])
  have hP2 := hP.own ho2 (hs.get (At.tail At.head))
  have hQ2 := hs.get At.head
  have hoB := hoA.step ho2 (fun k hk => .inl hk)
  clear hs
  have hs := ((St.nil _).track hP2.q (by simp)).track hQ2 (by simpa using n1)
  refine dr [] hs (k := ?_); intro hX w hs
  refine tk 0 hX (k := ?_)
  refine tk 1 hX (k := ?_)
  refine tk 2 hX (k := ?_)
  refine tk 3 hX (k := ?_)
  refine tk 4 hX (k := ?_)
  refine tk 5 hX (k := ?_)
  refine dt 6 hX (k := ?_)
  have ho3 := hs.onlyF [] (by simp [hP2.q, hQ2]) (by simp [D0])
  have hP3 := hP2.only ho3
  have hQ3 := hs.get At.head
  have hoC := hoB.step ho3 (by simp)
  (with_reducible apply xs_call); exact rfl; exact rfl; exact IB.rbInsert_ret tb s.t Ft a _ hP3.T hlen
  rintro v w4 ⟨rfl, F', hT', hF', ho4⟩
  have hz := hoC.size
  have hM4 := hP3.M.keep ho4 hP3.mT
  have hq4 := ho4.block hP3.q hP3.qT
  have hQ4 := ho4.block hQ3 (hP3.T.not hQ3 (by decide) (by decide))
  have hF'' : ∀ k ∈ F', k ∈ Ft ∨ w0.heap.size ≤ k := fun k hk => by rcases hF' k hk with h | h; exact .inl h; exact .inr (by omega)
  have hoD : Only (qb :: mb :: Ft) w0 w4 := (hoC.weaken (by simp)).step ho4 (fun k hk => .inl (by simp [hk]))
  clear hs
  have hs := ((St.nil w4).track hq4 (by simp)).track hQ4 (by simpa using n1)
  repeat' (first|refine vs (k:=?_)|refine ps (k:=?_)|((first|refine st hs (k:=?_)|refine stA hs (k:=?_));intro w hs)|((first|refine al hs (k:=?_)|refine bx hs (k:=?_)|refine bs hs (k:=?_));intro b w hz hs)|refine qRg ?_|refine Nx.h ?_|refine qBo ?_|refine qCt ?_|refine qCf ?_|((with_reducible apply xs_guard);exact rfl;exact rfl;intro c hc;(fail_if_success have:true=c:=hc);(fail_if_success have:false=c:=hc);cases c)|(refine xc_if rfl (fun hc=>?_) (fun hc=>?_))|(refine xc_cond rfl (fun hc=>?_) (fun hc=>?_)))
  refine dn (k := ?_)
  refine en (k := ?_)
  repeat' (first|refine vs (k:=?_)|refine ps (k:=?_)|((first|refine st hs (k:=?_)|refine stA hs (k:=?_));intro w hs)|((first|refine al hs (k:=?_)|refine bx hs (k:=?_)|refine bs hs (k:=?_));intro b w hz hs)|refine qRg ?_|refine Nx.h ?_|refine qBo ?_|refine qCt ?_|refine qCf ?_|((with_reducible apply xs_guard);exact rfl;exact rfl;intro c hc;(fail_if_success have:true=c:=hc);(fail_if_success have:false=c:=hc);cases c)|(refine xc_if rfl (fun hc=>?_) (fun hc=>?_))|(refine xc_cond rfl (fun hc=>?_) (fun hc=>?_)))
  refine dr [] hs (k := ?_); intro hX w hs
  refine tk 0 hX (k := ?_)
  refine tk 1 hX (k := ?_)
  refine tk 2 hX (k := ?_)
  refine tk 3 hX (k := ?_)
  refine tk 4 hX (k := ?_)
  refine tk 5 hX (k := ?_)
  refine tk 6 hX (k := ?_)
  refine dt 7 hX (k := ?_)
  have ho5 := hs.onlyF [] (by simp [hq4, hQ4]) (by simp [D0])
  have hM5 := hM4.keep ho5 (by simp)
  have hT5 := hT'.only ho5
  have hq5 := hs.get (At.tail At.head)
  refine xs_mapPut (e := 34) (v := iv a.1) hM5 a.2.2.1 (by show s.n < maxLen; unfold maxLen; omega) (by kernel_rfl) (k := ?_)
  intro w6 hM6 ho6
  have hbm := hM5.ne (hs.get At.head)
  have hqm := hM5.ne hq5
  have hmT := mb_not hT5 hM5
  replace hs := hs.call ho6 (fun k hk hm => by
    obtain rfl := List.mem_singleton.1 hk
    simp only [List.map_cons, List.map_nil, List.mem_cons, List.not_mem_nil, or_false] at hm
    rcases hm with rfl | rfl
    · exact hbm rfl
    · exact hqm rfl) (by simp [D0])
  have hq6 := hs.get (At.tail At.head)
  have hT6 := hT5.keepD ho6 (fun k hk hm => by obtain rfl := List.mem_singleton.1 hm; exact hmT hk)
  have hoE : Only (qb :: mb :: Ft) w0 w6 := (hoD.step ho5 (by simp)).step ho6 (fun k hk => .inl (by obtain rfl := List.mem_singleton.1 hk; simp))
  have hM6' : MapAt w6 mb (vals (updI s.f a.1.id (some a))) (if (s.f a.1.id).isSome then s.n else s.n + 1) := by
    rw [← vals_upd, ← vals_isSome]
    exact hM6
  have hA6 : QAt w6 qb (putQ1 s a) (qb :: mb :: F') := ⟨tb, mb, F', rfl, hq6, hM6', hT6, getD_in (fun m e => addM_in hin e), h5⟩
  have hz6 := hoE.size
  have hQ6 := hs.get At.head
  clear hs
  have hs := ((St.nil w6).track hq6 (by simp)).track hQ6 (by simpa using n1)
  refine XS.nil ?_
  refine dn (k := ?_)
  refine en (k := ?_)
  repeat' (first|refine vs (k:=?_)|refine ps (k:=?_)|((first|refine st hs (k:=?_)|refine stA hs (k:=?_));intro w hs)|((first|refine al hs (k:=?_)|refine bx hs (k:=?_)|refine bs hs (k:=?_));intro b w hz hs)|refine qRg ?_|refine Nx.h ?_|refine qBo ?_|refine qCt ?_|refine qCf ?_|((with_reducible apply xs_guard);exact rfl;exact rfl;intro c hc;(fail_if_success have:true=c:=hc);(fail_if_success have:false=c:=hc);cases c)|(refine xc_if rfl (fun hc=>?_) (fun hc=>?_))|(refine xc_cond rfl (fun hc=>?_) (fun hc=>?_)))
  have ho7 := hs.onlyF [] (by simp [hq6, hQ6]) (by simp [D0])
  (with_reducible apply xs_call); exact rfl; exact rfl; exact qcentre_ret qb (putQ1 s a) _ _ (hA6.only ho7)
  rintro v w8 ⟨hA8, ho8⟩
  have hs := St.nil w8
  repeat' (first|refine vs (k:=?_)|refine ps (k:=?_)|((first|refine st hs (k:=?_)|refine stA hs (k:=?_));intro w hs)|((first|refine al hs (k:=?_)|refine bx hs (k:=?_)|refine bs hs (k:=?_));intro b w hz hs)|refine qRg ?_|refine Nx.h ?_|refine qBo ?_|refine qCt ?_|refine qCf ?_|((with_reducible apply xs_guard);exact rfl;exact rfl;intro c hc;(fail_if_success have:true=c:=hc);(fail_if_success have:false=c:=hc);cases c)|(refine xc_if rfl (fun hc=>?_) (fun hc=>?_))|(refine xc_cond rfl (fun hc=>?_) (fun hc=>?_)))
  first | refine rt' (vs := []) (hr := resOk_nil) (hq := ?_) | refine rt (vs := []) (hr := resOk_nil) (hq := ?_)
  refine ⟨_, hA8, fun k hk => ?_, ((hoE.step ho7 (by simp)).step ho8 (fun k hk => .inl (by obtain rfl := List.mem_singleton.1 hk; simp)))⟩
  simp only [List.mem_cons] at hk
  rcases hk with rfl | rfl | hk
  · exact .inl (by simp)
  · exact .inl (by simp)
  · rcases hF'' k hk with h | h
    · exact .inl (by simp [h])
    · exact .inr h
end Go.Proofs.YtegoaabjccignaaGreatDoorX

namespace Go.Proofs.YtegoaabjccignaaGreatDoorX
open Go Go.RowKit
open IB (IT ITsAt flatT)
attribute [local irreducible] XS XC XA thenE blockE retE loopE loopS cutB cutN doneE SE
def cutT (a : IT) (t : RB IT) : RB IT := bif RB.has IB.ltT a t then RB.blacken ((IB.delC a t).getD .nil) else t
def CutOk (a : IT) (t : RB IT) : Prop := RB.has IB.ltT a t = true → IB.delC a t = some ((IB.delC a t).getD .nil) ∧ ((IB.delC a t).getD .nil).list.length + 1 = t.list.length
def cutQ1 (s : Qs) (a : IT) : Qs := ⟨(takM s.m a.1.p).getD .zero, cutT a s.t, updI s.f a.1.id none, if (s.f a.1.id).isSome then s.n - 1 else s.n, nowQ s⟩
def cutQ (s : Qs) (a : IT) : Qs := centreQ (cutQ1 s a)
set_option maxHeartbeats 4000000 in
theorem qcut_ret (qb : Nat) (s : Qs) (F : List Nat) (a : IT) (w0 : World) (h : QAt w0 qb s F) (hlen : s.t.list.length ≤ 1000000) (hd : CutOk a s.t) :
    Ret Tryz.prog 45 #[.pointer (some ⟨qb, 0, none⟩), iv a.1] w0 fun v w' => ∃ F', QAt w' qb (cutQ s a) F' ∧ (∀ k ∈ F', k ∈ F ∨ w0.heap.size ≤ k) ∧ Only F w0 w' := by
  have hq := h
  obtain ⟨tb, mb, Ft, rfl, h1, h2, h3, h4, h5⟩ := h
  have hs := (St.nil w0).track h1 (by simp)
  have lt1 := lt_of_block h1
  have ltF := hq.lt
  have hP0 : QP w0 qb tb mb Ft s := ⟨h1, h2, h3⟩
  refine ret_of_xc Tryz.func45 (by kernel_rfl) rfl Tryz.ntmps45 rfl rfl rfl ?_; refine xc_seq ?_; refine xc_region ?_ ?_; exact rfl; refine bx hs (k := ?_); intro bq wq hzq hs; repeat' (first|refine vs (k:=?_)|refine ps (k:=?_)|((first|refine st hs (k:=?_)|refine stA hs (k:=?_));intro w hs)|((first|refine al hs (k:=?_)|refine bx hs (k:=?_)|refine bs hs (k:=?_));intro b w hz hs)|refine qRg ?_|refine Nx.h ?_|refine qBo ?_|refine qCt ?_|refine qCf ?_|((with_reducible apply xs_guard);exact rfl;exact rfl;intro c hc;(fail_if_success have:true=c:=hc);(fail_if_success have:false=c:=hc);cases c)|(refine xc_if rfl (fun hc=>?_) (fun hc=>?_))|(refine xc_cond rfl (fun hc=>?_) (fun hc=>?_)))
  have hbq := hs.new (bq, true) (by simp) rfl
  simp only at hbq
  have ho := hs.onlyF [] (by simp [h1]) (by simp [D0])
  (with_reducible apply xs_call); exact rfl; exact rfl; exact qnow_ret qb s _ _ (hq.only ho)
  rintro v w' ⟨rfl, ho⟩; replace hs := hs.call0 ho; repeat' (first|refine vs (k:=?_)|refine ps (k:=?_)|((first|refine st hs (k:=?_)|refine stA hs (k:=?_));intro w hs)|((first|refine al hs (k:=?_)|refine bx hs (k:=?_)|refine bs hs (k:=?_));intro b w hz hs)|refine qRg ?_|refine Nx.h ?_|refine qBo ?_|refine qCt ?_|refine qCf ?_|((with_reducible apply xs_guard);exact rfl;exact rfl;intro c hc;(fail_if_success have:true=c:=hc);(fail_if_success have:false=c:=hc);cases c)|(refine xc_if rfl (fun hc=>?_) (fun hc=>?_))|(refine xc_cond rfl (fun hc=>?_) (fun hc=>?_)))
  refine dr [13] hs (k := ?_); intro hX w hs
  refine tk 0 hX (k := ?_)
  refine tk 1 hX (k := ?_)
  refine tk 2 hX (k := ?_)
  refine tk 3 hX (k := ?_)
  refine tk 4 hX (k := ?_)
  refine tk 5 hX (k := ?_)
  refine tk 6 hX (k := ?_)
  refine dt 7 hX (k := ?_)
  (with_reducible apply xs_call); exact rfl; exact rfl; exact mtake_ret s.m a.1.p h4 a.2.1 _
  rintro v w' ⟨rfl, ho⟩; replace hs := hs.call0 ho; repeat' (first|refine vs (k:=?_)|refine ps (k:=?_)|((first|refine st hs (k:=?_)|refine stA hs (k:=?_));intro w hs)|((first|refine al hs (k:=?_)|refine bx hs (k:=?_)|refine bs hs (k:=?_));intro b w hz hs)|refine qRg ?_|refine Nx.h ?_|refine qBo ?_|refine qCt ?_|refine qCf ?_|((with_reducible apply xs_guard);exact rfl;exact rfl;intro c hc;(fail_if_success have:true=c:=hc);(fail_if_success have:false=c:=hc);cases c)|(refine xc_if rfl (fun hc=>?_) (fun hc=>?_))|(refine xc_cond rfl (fun hc=>?_) (fun hc=>?_)))
  refine dn (k := ?_)
  refine tk 8 hX (k := ?_)
  refine tk 9 hX (k := ?_)
  refine tk 10 hX (k := ?_)
  refine tk 11 hX (k := ?_)
  refine tk 12 hX (k := ?_)
  refine dt 13 hX (k := ?_)
  repeat' (first|refine vs (k:=?_)|refine ps (k:=?_)|((first|refine st hs (k:=?_)|refine stA hs (k:=?_));intro w hs)|((first|refine al hs (k:=?_)|refine bx hs (k:=?_)|refine bs hs (k:=?_));intro b w hz hs)|refine qRg ?_|refine Nx.h ?_|refine qBo ?_|refine qCt ?_|refine qCf ?_|((with_reducible apply xs_guard);exact rfl;exact rfl;intro c hc;(fail_if_success have:true=c:=hc);(fail_if_success have:false=c:=hc);cases c)|(refine xc_if rfl (fun hc=>?_) (fun hc=>?_))|(refine xc_cond rfl (fun hc=>?_) (fun hc=>?_)))
  refine dn (k := ?_)
  refine en (k := ?_)
  repeat' (first|refine vs (k:=?_)|refine ps (k:=?_)|((first|refine st hs (k:=?_)|refine stA hs (k:=?_));intro w hs)|((first|refine al hs (k:=?_)|refine bx hs (k:=?_)|refine bs hs (k:=?_));intro b w hz hs)|refine qRg ?_|refine Nx.h ?_|refine qBo ?_|refine qCt ?_|refine qCf ?_|((with_reducible apply xs_guard);exact rfl;exact rfl;intro c hc;(fail_if_success have:true=c:=hc);(fail_if_success have:false=c:=hc);cases c)|(refine xc_if rfl (fun hc=>?_) (fun hc=>?_))|(refine xc_cond rfl (fun hc=>?_) (fun hc=>?_)))
  have ho2 := hs.onlyF [qb] (by simp) (by simp [D0])
  have hP2 := hP0.own ho2 (hs.get (At.tail At.head))
  have hQ2 := hs.get At.head
  have n1 : bq ≠ qb := blocks_ne hQ2 hP2.q (by decide)
  clear hs
  have hs := ((St.nil _).track hP2.q (by simp)).track hQ2 (by simpa using n1)
  refine dr [] hs (k := ?_); intro hX w hs
  refine tk 0 hX (k := ?_)
  refine tk 1 hX (k := ?_)
  refine tk 2 hX (k := ?_)
  refine tk 3 hX (k := ?_)
  refine tk 4 hX (k := ?_)
  refine tk 5 hX (k := ?_)
  refine dt 6 hX (k := ?_)
  have ho3 := hs.onlyF [] (by simp [hP2.q, hQ2]) (by simp [D0])
  have hP3 := hP2.only ho3
  have hQ3 := hs.get At.head
  have hoC := ho2.step ho3 (by simp)
  (with_reducible apply xs_call); exact rfl; exact rfl; exact IB.rbDelete_ret tb s.t Ft a _ _ hP3.T hd hlen
  rintro v w4 ⟨rfl, F', hT', hF', ho4⟩
  have hz := hoC.size
  have hM4 := hP3.M.keep ho4 hP3.mT
  have hq4 := ho4.block hP3.q hP3.qT
  have hQ4 := ho4.block hQ3 (hP3.T.not hQ3 (by decide) (by decide))
  have hF'' : ∀ k ∈ F', k ∈ Ft ∨ w0.heap.size ≤ k := fun k hk => by rcases hF' k hk with h | h; exact .inl h; exact .inr (by omega)
  have hoD : Only (qb :: mb :: Ft) w0 w4 := (hoC.weaken (by simp)).step ho4 (fun k hk => .inl (by simp [hk]))
  clear hs
  have hs := ((St.nil w4).track hq4 (by simp)).track hQ4 (by simpa using n1)
  repeat' (first|refine vs (k:=?_)|refine ps (k:=?_)|((first|refine st hs (k:=?_)|refine stA hs (k:=?_));intro w hs)|((first|refine al hs (k:=?_)|refine bx hs (k:=?_)|refine bs hs (k:=?_));intro b w hz hs)|refine qRg ?_|refine Nx.h ?_|refine qBo ?_|refine qCt ?_|refine qCf ?_|((with_reducible apply xs_guard);exact rfl;exact rfl;intro c hc;(fail_if_success have:true=c:=hc);(fail_if_success have:false=c:=hc);cases c)|(refine xc_if rfl (fun hc=>?_) (fun hc=>?_))|(refine xc_cond rfl (fun hc=>?_) (fun hc=>?_)))
  refine dn (k := ?_)
  refine en (k := ?_)
  repeat' (first|refine vs (k:=?_)|refine ps (k:=?_)|((first|refine st hs (k:=?_)|refine stA hs (k:=?_));intro w hs)|((first|refine al hs (k:=?_)|refine bx hs (k:=?_)|refine bs hs (k:=?_));intro b w hz hs)|refine qRg ?_|refine Nx.h ?_|refine qBo ?_|refine qCt ?_|refine qCf ?_|((with_reducible apply xs_guard);exact rfl;exact rfl;intro c hc;(fail_if_success have:true=c:=hc);(fail_if_success have:false=c:=hc);cases c)|(refine xc_if rfl (fun hc=>?_) (fun hc=>?_))|(refine xc_cond rfl (fun hc=>?_) (fun hc=>?_)))
  refine dr [] hs (k := ?_); intro hX w hs
  refine tk 0 hX (k := ?_)
  refine tk 1 hX (k := ?_)
  refine tk 2 hX (k := ?_)
  refine tk 3 hX (k := ?_)
  refine tk 4 hX (k := ?_)
  refine tk 5 hX (k := ?_)
  refine dt 6 hX (k := ?_)
  have ho5 := hs.onlyF [] (by simp [hq4, hQ4]) (by simp [D0])
  have hM5 := hM4.keep ho5 (by simp)
  have hT5 := hT'.only ho5
  have hq5 := hs.get (At.tail At.head)
  refine xs_mapDel (e := 34) hM5 a.2.2.1 (by kernel_rfl) (k := ?_)
  intro w6 hM6 ho6
  have hbm := hM5.ne (hs.get At.head)
  have hqm := hM5.ne hq5
  have hmT := mb_not hT5 hM5
  replace hs := hs.call ho6 (fun k hk hm => by
    obtain rfl := List.mem_singleton.1 hk
    simp only [List.map_cons, List.map_nil, List.mem_cons, List.not_mem_nil, or_false] at hm
    rcases hm with rfl | rfl
    · exact hbm rfl
    · exact hqm rfl) (by simp [D0])
  have hq6 := hs.get (At.tail At.head)
  have hT6 := hT5.keepD ho6 (fun k hk hm => by obtain rfl := List.mem_singleton.1 hm; exact hmT hk)
  have hoE : Only (qb :: mb :: Ft) w0 w6 := (hoD.step ho5 (by simp)).step ho6 (fun k hk => .inl (by obtain rfl := List.mem_singleton.1 hk; simp))
  have hM6' : MapAt w6 mb (vals (updI s.f a.1.id none)) (if (s.f a.1.id).isSome then s.n - 1 else s.n) := by
    rw [← vals_upd, ← vals_isSome]
    exact hM6
  have hA6 : QAt w6 qb (cutQ1 s a) (qb :: mb :: F') := ⟨tb, mb, F', rfl, hq6, hM6', hT6, getD_in (fun m e => takM_in h4 e), nowQ_in h5⟩
  have hz6 := hoE.size
  have hQ6 := hs.get At.head
  clear hs
  have hs := ((St.nil w6).track hq6 (by simp)).track hQ6 (by simpa using n1)
  refine XS.nil ?_
  refine dn (k := ?_)
  refine en (k := ?_)
  repeat' (first|refine vs (k:=?_)|refine ps (k:=?_)|((first|refine st hs (k:=?_)|refine stA hs (k:=?_));intro w hs)|((first|refine al hs (k:=?_)|refine bx hs (k:=?_)|refine bs hs (k:=?_));intro b w hz hs)|refine qRg ?_|refine Nx.h ?_|refine qBo ?_|refine qCt ?_|refine qCf ?_|((with_reducible apply xs_guard);exact rfl;exact rfl;intro c hc;(fail_if_success have:true=c:=hc);(fail_if_success have:false=c:=hc);cases c)|(refine xc_if rfl (fun hc=>?_) (fun hc=>?_))|(refine xc_cond rfl (fun hc=>?_) (fun hc=>?_)))
  have ho7 := hs.onlyF [] (by simp [hq6, hQ6]) (by simp [D0])
  (with_reducible apply xs_call); exact rfl; exact rfl; exact qcentre_ret qb (cutQ1 s a) _ _ (hA6.only ho7)
  rintro v w8 ⟨hA8, ho8⟩
  have hs := St.nil w8
  repeat' (first|refine vs (k:=?_)|refine ps (k:=?_)|((first|refine st hs (k:=?_)|refine stA hs (k:=?_));intro w hs)|((first|refine al hs (k:=?_)|refine bx hs (k:=?_)|refine bs hs (k:=?_));intro b w hz hs)|refine qRg ?_|refine Nx.h ?_|refine qBo ?_|refine qCt ?_|refine qCf ?_|((with_reducible apply xs_guard);exact rfl;exact rfl;intro c hc;(fail_if_success have:true=c:=hc);(fail_if_success have:false=c:=hc);cases c)|(refine xc_if rfl (fun hc=>?_) (fun hc=>?_))|(refine xc_cond rfl (fun hc=>?_) (fun hc=>?_)))
  first | refine rt' (vs := []) (hr := resOk_nil) (hq := ?_) | refine rt (vs := []) (hr := resOk_nil) (hq := ?_)
  refine ⟨_, hA8, fun k hk => ?_, ((hoE.step ho7 (by simp)).step ho8 (fun k hk => .inl (by obtain rfl := List.mem_singleton.1 hk; simp)))⟩
  simp only [List.mem_cons] at hk
  rcases hk with rfl | rfl | hk
  · exact .inl (by simp)
  · exact .inl (by simp)
  · rcases hF'' k hk with h | h
    · exact .inl (by simp [h])
    · exact .inr h
theorem vals_get (f : Int → Option IT) (i : Int) : (vals f i).getD (iv .zero) = iv (match f i with | some a => a.1 | none => .zero) := by unfold vals; cases f i <;> rfl
def leaveQ (s : Qs) (id : Int) : Qs := match s.f id with | some a => cutQ s a | none => s
set_option maxHeartbeats 4000000 in
theorem qleave_ret (qb : Nat) (s : Qs) (F : List Nat) (id : Int) (w0 : World) (h : QAt w0 qb s F) (hid : In64 id) (hlen : s.t.list.length ≤ 1000000) (hd : ∀ a, s.f id = some a → CutOk a s.t) :
    Ret Tryz.prog 24 #[.pointer (some ⟨qb, 0, none⟩), .int .i64 id] w0 fun v w' => v = .tuple #[iv (match s.f id with | some a => a.1 | none => .zero), .int .i64 (if (s.f id).isSome then 0 else 14)] ∧ ∃ F', QAt w' qb (leaveQ s id) F' ∧ (∀ k ∈ F', k ∈ F ∨ w0.heap.size ≤ k) ∧ Only F w0 w' := by
  have hq := h
  obtain ⟨tb, mb, Ft, rfl, h1, h2, h3, h4, h5⟩ := h
  have hs := (St.nil w0).track h1 (by simp)
  refine ret_of_xc Tryz.func24 (by kernel_rfl) rfl Tryz.ntmps24 rfl rfl rfl ?_
  refine xc_seq ?_
  refine xc_region ?_ ?_; exact rfl
  refine al hs (k := ?_); intro b4 w hz hs
  have g4 := hs.new (b4, true) (by simp) rfl
  simp only at g4
  repeat' (first|refine vs (k:=?_)|refine ps (k:=?_)|((first|refine st hs (k:=?_)|refine stA hs (k:=?_));intro w hs)|((first|refine al hs (k:=?_)|refine bx hs (k:=?_)|refine bs hs (k:=?_));intro b w hz hs)|refine qRg ?_|refine Nx.h ?_|refine qBo ?_|refine qCt ?_|refine qCf ?_|((with_reducible apply xs_guard);exact rfl;exact rfl;intro c hc;(fail_if_success have:true=c:=hc);(fail_if_success have:false=c:=hc);cases c)|(refine xc_if rfl (fun hc=>?_) (fun hc=>?_))|(refine xc_cond rfl (fun hc=>?_) (fun hc=>?_)))
  have ho := hs.onlyF [] (by simp [h1]) (by simp [D0])
  refine xs_look (e := 34) (z := iv .zero) (h2.keep ho (by simp)) hid (by kernel_rfl) (by kernel_rfl) (k := ?_)
  rw [vals_get, vals_isSome]
  unfold leaveQ
  cases hf : s.f id with
  | none =>
    repeat' (first|refine vs (k:=?_)|refine ps (k:=?_)|((first|refine st hs (k:=?_)|refine stA hs (k:=?_));intro w hs)|((first|refine al hs (k:=?_)|refine bx hs (k:=?_)|refine bs hs (k:=?_));intro b w hz hs)|refine qRg ?_|refine Nx.h ?_|refine qBo ?_|refine qCt ?_|refine qCf ?_|((with_reducible apply xs_guard);exact rfl;exact rfl;intro c hc;(fail_if_success have:true=c:=hc);(fail_if_success have:false=c:=hc);cases c)|(refine xc_if rfl (fun hc=>?_) (fun hc=>?_))|(refine xc_cond rfl (fun hc=>?_) (fun hc=>?_)))
    first | refine rt (hq := ?_) | refine rt' (hq := ?_)
    have ho := hs.onlyF [] (by simp [h1]) (by simp [D0])
    exact ⟨rfl, _, hq.only ho, fun k hk => .inl hk, ho.weaken (by simp)⟩
  | some a =>
    refine vs (k := ?_)
    refine vs (k := ?_)
    refine vs (k := ?_)
    refine al hs (k := ?_); intro b6 w6 hz6 hs
    have g6 := hs.new (b6, true) (by simp) rfl
    simp only at g6
    have n46 : b6 ≠ b4 := by have := hs.nd; simp only [List.map_cons, List.nodup_cons, List.mem_cons, not_or] at this; exact this.1.1
    repeat' (first|refine vs (k:=?_)|refine ps (k:=?_)|((first|refine st hs (k:=?_)|refine stA hs (k:=?_));intro w hs)|((first|refine al hs (k:=?_)|refine bx hs (k:=?_)|refine bs hs (k:=?_));intro b w hz hs)|refine qRg ?_|refine Nx.h ?_|refine qBo ?_|refine qCt ?_|refine qCf ?_|((with_reducible apply xs_guard);exact rfl;exact rfl;intro c hc;(fail_if_success have:true=c:=hc);(fail_if_success have:false=c:=hc);cases c)|(refine xc_if rfl (fun hc=>?_) (fun hc=>?_))|(refine xc_cond rfl (fun hc=>?_) (fun hc=>?_)))
    have ho := hs.onlyF [] (by simp [h1]) (by simp [D0])
    have hqw := hq.only ho
    (with_reducible apply xs_call); exact rfl; exact rfl; exact qcut_ret qb s _ a _ hqw hlen (hd a hf)
    rintro v w7 ⟨F', hA, hF', ho7⟩
    have k4 := ho7.block (hs.get (At.tail At.head)) (hqw.not (hs.get (At.tail At.head)) (by decide) (by decide) (by decide))
    have k6 := ho7.block (hs.get At.head) (hqw.not (hs.get At.head) (by decide) (by decide) (by decide))
    have hz7 := ho.size
    clear hs
    have hs := ((St.nil w7).track k4 (by simp)).track k6 (by simpa using n46)
    repeat' (first|refine vs (k:=?_)|refine ps (k:=?_)|((first|refine st hs (k:=?_)|refine stA hs (k:=?_));intro w hs)|((first|refine al hs (k:=?_)|refine bx hs (k:=?_)|refine bs hs (k:=?_));intro b w hz hs)|refine qRg ?_|refine Nx.h ?_|refine qBo ?_|refine qCt ?_|refine qCf ?_|((with_reducible apply xs_guard);exact rfl;exact rfl;intro c hc;(fail_if_success have:true=c:=hc);(fail_if_success have:false=c:=hc);cases c)|(refine xc_if rfl (fun hc=>?_) (fun hc=>?_))|(refine xc_cond rfl (fun hc=>?_) (fun hc=>?_)))
    first | refine rt (hq := ?_) | refine rt' (hq := ?_)
    have ho8 := hs.onlyF [b4] (by simp [k6]) (by simp [D0])
    refine ⟨rfl, F', hA.keepD ho8 (fun k hk hm => by obtain rfl := List.mem_singleton.1 hm; exact hA.not k4 (by decide) (by decide) (by decide) hk), fun k hk => ?_, ((ho.weaken (by simp)).step ho7 (fun k hk => .inl hk)).step ho8 (fun k hk => .inr (by obtain rfl := List.mem_singleton.1 hk; exact g4))⟩
    rcases hF' k hk with h | h
    · exact .inl h
    · exact .inr (by omega)
end Go.Proofs.YtegoaabjccignaaGreatDoorX

namespace Go.Proofs.YtegoaabjccignaaGreatDoorX
open Go Go.RowKit
open IB (IT ITsAt flatT)
attribute [local irreducible] XS XC XA thenE blockE retE loopE loopS cutB cutN doneE SE
def newQ (c : Int) : Qs := ⟨.zero, .nil, fun _ => none, 0, c⟩
theorem qnew_ret (c : Int) (hc : U64 c) (w0 : World) : Ret Tryz.prog 25 #[.int .u64 c] w0 fun v w' => (∃ qb F, v = .pointer (some ⟨qb, 0, none⟩) ∧ QAt w' qb (newQ c) F ∧ ∀ k ∈ F, w0.heap.size ≤ k) ∧ Only [] w0 w' := by
  have hs := St.nil w0
  refine ret_of_xc Tryz.func25 (by kernel_rfl) rfl Tryz.ntmps25 rfl rfl rfl ?_
  repeat' (first|refine vs (k:=?_)|refine ps (k:=?_)|((first|refine st hs (k:=?_)|refine stA hs (k:=?_));intro w hs)|((first|refine al hs (k:=?_)|refine bx hs (k:=?_)|refine bs hs (k:=?_));intro b w hz hs)|refine qRg ?_|refine Nx.h ?_|refine qBo ?_|refine qCt ?_|refine qCf ?_|((with_reducible apply xs_guard);exact rfl;exact rfl;intro c hc;(fail_if_success have:true=c:=hc);(fail_if_success have:false=c:=hc);cases c)|(refine xc_if rfl (fun hc=>?_) (fun hc=>?_))|(refine xc_cond rfl (fun hc=>?_) (fun hc=>?_)))
  (with_reducible apply xs_call); exact rfl; exact rfl; exact IB.newTree_ret [] (.slice none 0 0) (by simp) _ (LsAt.nil _ _ _)
  rintro v w1 ⟨⟨tb, Ft, rfl, hT, hFt⟩, ho⟩; replace hs := hs.call0 ho
  have ho1 := hs.only0 rfl
  have hz1 := ho1.size
  refine xs_mapNew (k := ?_)
  intro mb w2 ho2 hM hmb
  clear hs
  have hs := St.nil w2
  refine vs (k := ?_)
  refine vs (k := ?_)
  refine bx hs (k := ?_); intro qb w3 hz hs
  have hqb := hs.new (qb, true) (by simp) rfl
  simp only at hqb
  have hz2 := ho2.size
  have hM3 := hM.keep (hs.only0 rfl) (by simp)
  have hT3 := (hT.only ho2).only (hs.only0 rfl)
  have hM4 : MapAt w3 mb (vals (fun _ => none)) 0 := hM3
  have hq3 := hs.get At.head
  have ho3 := (ho1.trans ho2).trans (hs.only0 rfl)
  have hA : QAt w3 qb (newQ c) (qb :: mb :: Ft) := ⟨tb, mb, Ft, rfl, hq3, hM4, hT3, (by decide : Mn.zero.In), hc⟩
  have hnew : ∀ k ∈ qb :: mb :: Ft, w0.heap.size ≤ k := fun k hk => by
    simp only [List.mem_cons] at hk
    rcases hk with rfl | rfl | hk
    · omega
    · omega
    · have := hFt k hk; omega
  repeat' (first|refine vs (k:=?_)|refine ps (k:=?_)|((first|refine st hs (k:=?_)|refine stA hs (k:=?_));intro w hs)|((first|refine al hs (k:=?_)|refine bx hs (k:=?_)|refine bs hs (k:=?_));intro b w hz hs)|refine qRg ?_|refine Nx.h ?_|refine qBo ?_|refine qCt ?_|refine qCf ?_|((with_reducible apply xs_guard);exact rfl;exact rfl;intro c hc;(fail_if_success have:true=c:=hc);(fail_if_success have:false=c:=hc);cases c)|(refine xc_if rfl (fun hc=>?_) (fun hc=>?_))|(refine xc_cond rfl (fun hc=>?_) (fun hc=>?_)))
  first | refine rt (hq := ?_) | refine rt' (hq := ?_)
  exact ⟨⟨qb, _, rfl, hA, hnew⟩, ho3⟩
def owedQ (s : Qs) (id : Int) : Int := match s.f id with | some a => cmpI ((ovM s.m a.1.p).getD 0) 0 | none => 0
def lagQ (s : Qs) (id : Int) : Int := match s.f id with | some a => (rdM s.m a.1.p).getD 0 | none => 0
def errN (b : Bool) : Int := bif b then 0 else 14
set_option maxHeartbeats 4000000 in
theorem qowed_ret (qb : Nat) (s : Qs) (F : List Nat) (id : Int) (w0 : World) (h : QAt w0 qb s F) (hid : In64 id) : Ret Tryz.prog 43 #[.pointer (some ⟨qb, 0, none⟩), .int .i64 id] w0 fun v w' => v = .tuple #[.int .i64 (owedQ s id), .int .i64 (errN (s.f id).isSome)] ∧ Only [] w0 w' := by
  obtain ⟨tb, mb, Ft, rfl, h1, h2, h3, h4, h5⟩ := h
  have hs := (St.nil w0).track h1 (by simp)
  refine ret_of_xc Tryz.func43 (by kernel_rfl) rfl Tryz.ntmps43 rfl rfl rfl ?_
  repeat' (first|refine vs (k:=?_)|refine ps (k:=?_)|((first|refine st hs (k:=?_)|refine stA hs (k:=?_));intro w hs)|((first|refine al hs (k:=?_)|refine bx hs (k:=?_)|refine bs hs (k:=?_));intro b w hz hs)|refine qRg ?_|refine Nx.h ?_|refine qBo ?_|refine qCt ?_|refine qCf ?_|((with_reducible apply xs_guard);exact rfl;exact rfl;intro c hc;(fail_if_success have:true=c:=hc);(fail_if_success have:false=c:=hc);cases c)|(refine xc_if rfl (fun hc=>?_) (fun hc=>?_))|(refine xc_cond rfl (fun hc=>?_) (fun hc=>?_)))
  have ho := hs.onlyF [] (by simp [h1]) (by simp [D0])
  refine xs_look (e := 34) (z := iv .zero) (h2.keep ho (by simp)) hid (by kernel_rfl) (by kernel_rfl) (k := ?_)
  rw [vals_get, vals_isSome]
  unfold owedQ
  cases hf : s.f id with
  | none =>
    repeat' (first|refine vs (k:=?_)|refine ps (k:=?_)|((first|refine st hs (k:=?_)|refine stA hs (k:=?_));intro w hs)|((first|refine al hs (k:=?_)|refine bx hs (k:=?_)|refine bs hs (k:=?_));intro b w hz hs)|refine qRg ?_|refine Nx.h ?_|refine qBo ?_|refine qCt ?_|refine qCf ?_|((with_reducible apply xs_guard);exact rfl;exact rfl;intro c hc;(fail_if_success have:true=c:=hc);(fail_if_success have:false=c:=hc);cases c)|(refine xc_if rfl (fun hc=>?_) (fun hc=>?_))|(refine xc_cond rfl (fun hc=>?_) (fun hc=>?_)))
    first | refine rt (hq := ?_) | refine rt' (hq := ?_)
    exact ⟨rfl, hs.onlyF [] (by simp [h1]) (by simp [D0])⟩
  | some a =>
    repeat' (first|refine vs (k:=?_)|refine ps (k:=?_)|((first|refine st hs (k:=?_)|refine stA hs (k:=?_));intro w hs)|((first|refine al hs (k:=?_)|refine bx hs (k:=?_)|refine bs hs (k:=?_));intro b w hz hs)|refine qRg ?_|refine Nx.h ?_|refine qBo ?_|refine qCt ?_|refine qCf ?_|((with_reducible apply xs_guard);exact rfl;exact rfl;intro c hc;(fail_if_success have:true=c:=hc);(fail_if_success have:false=c:=hc);cases c)|(refine xc_if rfl (fun hc=>?_) (fun hc=>?_))|(refine xc_cond rfl (fun hc=>?_) (fun hc=>?_)))
    refine dr [] hs (k := ?_); intro hX w hs
    refine tk 0 hX (k := ?_)
    refine tk 1 hX (k := ?_)
    refine tk 2 hX (k := ?_)
    refine tk 3 hX (k := ?_)
    refine tk 4 hX (k := ?_)
    refine tk 5 hX (k := ?_)
    refine dt 6 hX (k := ?_)
    (with_reducible apply xs_call); exact rfl; exact rfl; exact lsign_ret s.m a.1.p h4 a.2.1 _
    rintro v w' ⟨rfl, ho⟩; replace hs := hs.call0 ho; repeat' (first|refine vs (k:=?_)|refine ps (k:=?_)|((first|refine st hs (k:=?_)|refine stA hs (k:=?_));intro w hs)|((first|refine al hs (k:=?_)|refine bx hs (k:=?_)|refine bs hs (k:=?_));intro b w hz hs)|refine qRg ?_|refine Nx.h ?_|refine qBo ?_|refine qCt ?_|refine qCf ?_|((with_reducible apply xs_guard);exact rfl;exact rfl;intro c hc;(fail_if_success have:true=c:=hc);(fail_if_success have:false=c:=hc);cases c)|(refine xc_if rfl (fun hc=>?_) (fun hc=>?_))|(refine xc_cond rfl (fun hc=>?_) (fun hc=>?_)))
    refine dn (k := ?_)
    refine tk 7 hX (k := ?_)
    refine tk 8 hX (k := ?_)
    refine tk 9 hX (k := ?_)
    refine tk 10 hX (k := ?_)
    refine tk 11 hX (k := ?_)
    refine en (k := ?_)
    repeat' (first|refine vs (k:=?_)|refine ps (k:=?_)|((first|refine st hs (k:=?_)|refine stA hs (k:=?_));intro w hs)|((first|refine al hs (k:=?_)|refine bx hs (k:=?_)|refine bs hs (k:=?_));intro b w hz hs)|refine qRg ?_|refine Nx.h ?_|refine qBo ?_|refine qCt ?_|refine qCf ?_|((with_reducible apply xs_guard);exact rfl;exact rfl;intro c hc;(fail_if_success have:true=c:=hc);(fail_if_success have:false=c:=hc);cases c)|(refine xc_if rfl (fun hc=>?_) (fun hc=>?_))|(refine xc_cond rfl (fun hc=>?_) (fun hc=>?_)))
    first | refine rt (hq := ?_) | refine rt' (hq := ?_)
    exact ⟨rfl, hs.onlyF [] (by simp [h1]) (by simp [D0])⟩
set_option maxHeartbeats 4000000 in
theorem qlag_ret (qb : Nat) (s : Qs) (F : List Nat) (id : Int) (w0 : World) (h : QAt w0 qb s F) (hid : In64 id) : Ret Tryz.prog 44 #[.pointer (some ⟨qb, 0, none⟩), .int .i64 id] w0 fun v w' => v = .tuple #[wv (lagQ s id), .int .i64 (errN (s.f id).isSome)] ∧ Only [] w0 w' := by
  obtain ⟨tb, mb, Ft, rfl, h1, h2, h3, h4, h5⟩ := h
  have hs := (St.nil w0).track h1 (by simp)
  refine ret_of_xc Tryz.func44 (by kernel_rfl) rfl Tryz.ntmps44 rfl rfl rfl ?_
  repeat' (first|refine vs (k:=?_)|refine ps (k:=?_)|((first|refine st hs (k:=?_)|refine stA hs (k:=?_));intro w hs)|((first|refine al hs (k:=?_)|refine bx hs (k:=?_)|refine bs hs (k:=?_));intro b w hz hs)|refine qRg ?_|refine Nx.h ?_|refine qBo ?_|refine qCt ?_|refine qCf ?_|((with_reducible apply xs_guard);exact rfl;exact rfl;intro c hc;(fail_if_success have:true=c:=hc);(fail_if_success have:false=c:=hc);cases c)|(refine xc_if rfl (fun hc=>?_) (fun hc=>?_))|(refine xc_cond rfl (fun hc=>?_) (fun hc=>?_)))
  have ho := hs.onlyF [] (by simp [h1]) (by simp [D0])
  refine xs_look (e := 34) (z := iv .zero) (h2.keep ho (by simp)) hid (by kernel_rfl) (by kernel_rfl) (k := ?_)
  rw [vals_get, vals_isSome]
  unfold lagQ
  cases hf : s.f id with
  | none =>
    repeat' (first|refine vs (k:=?_)|refine ps (k:=?_)|((first|refine st hs (k:=?_)|refine stA hs (k:=?_));intro w hs)|((first|refine al hs (k:=?_)|refine bx hs (k:=?_)|refine bs hs (k:=?_));intro b w hz hs)|refine qRg ?_|refine Nx.h ?_|refine qBo ?_|refine qCt ?_|refine qCf ?_|((with_reducible apply xs_guard);exact rfl;exact rfl;intro c hc;(fail_if_success have:true=c:=hc);(fail_if_success have:false=c:=hc);cases c)|(refine xc_if rfl (fun hc=>?_) (fun hc=>?_))|(refine xc_cond rfl (fun hc=>?_) (fun hc=>?_)))
    first | refine rt (hq := ?_) | refine rt' (hq := ?_)
    exact ⟨rfl, hs.onlyF [] (by simp [h1]) (by simp [D0])⟩
  | some a =>
    repeat' (first|refine vs (k:=?_)|refine ps (k:=?_)|((first|refine st hs (k:=?_)|refine stA hs (k:=?_));intro w hs)|((first|refine al hs (k:=?_)|refine bx hs (k:=?_)|refine bs hs (k:=?_));intro b w hz hs)|refine qRg ?_|refine Nx.h ?_|refine qBo ?_|refine qCt ?_|refine qCf ?_|((with_reducible apply xs_guard);exact rfl;exact rfl;intro c hc;(fail_if_success have:true=c:=hc);(fail_if_success have:false=c:=hc);cases c)|(refine xc_if rfl (fun hc=>?_) (fun hc=>?_))|(refine xc_cond rfl (fun hc=>?_) (fun hc=>?_)))
    refine dr [] hs (k := ?_); intro hX w hs
    refine tk 0 hX (k := ?_)
    refine tk 1 hX (k := ?_)
    refine tk 2 hX (k := ?_)
    refine tk 3 hX (k := ?_)
    refine tk 4 hX (k := ?_)
    refine tk 5 hX (k := ?_)
    refine pd0 10 8 hs (k := ?_); intro f X w hp; have hs := hp.st
    apply xa_pend 6 10 (f := f) (X := X) hX hp; exact rfl; exact rfl; (first | (apply makes_alloc tabOk; exact rfl) | (apply makes_slice tabOk; exact rfl; exact rfl; exact rfl; exact rfl; exact rfl; (intro X; ((repeat (first | exact Bld.nil | (apply Bld.one; exact rfl; (conv => lhs; whnf); exact rfl; (repeat (first | exact PutL.nil | apply PutL.skip | apply PutL.cons))) | (apply Bld.agg; exact rfl; exact rfl; exact rfl; (repeat (first | exact PutL.nil | apply PutL.skip | apply PutL.cons))))))))); kernel_rfl; kernel_rfl; kernel_rfl; kernel_rfl; (intro X Y; (repeat (first | exact pgg_base | refine pgg_step ?_ (by exact rfl)))); (intro w' hs; ((first | exact se_hold hs.hold | exact se_hold (hold_sim hs.hold rfl) | exact se_hold (hold_sim hs.hold.tail rfl) | exact se_hold (hR hs rfl) | exact se_hold hs.hold.tail | exact se_hold hs.hold.tail.tail | exact se_hold hs.hold.tail.tail.tail | exact se_done rfl))); intro f X w hp; have hs := hp.st
    (with_reducible apply xs_call); exact rfl; exact rfl; exact read_ret s.m a.1.p h4 a.2.1 _
    rintro v w' ⟨rfl, ho⟩; replace hp := hp.only ho; replace hs := hp.st; repeat' (first|refine vs (k:=?_)|refine ps (k:=?_)|((first|refine st hs (k:=?_)|refine stA hs (k:=?_));intro w hs)|((first|refine al hs (k:=?_)|refine bx hs (k:=?_)|refine bs hs (k:=?_));intro b w hz hs)|refine qRg ?_|refine Nx.h ?_|refine qBo ?_|refine qCt ?_|refine qCf ?_|((with_reducible apply xs_guard);exact rfl;exact rfl;intro c hc;(fail_if_success have:true=c:=hc);(fail_if_success have:false=c:=hc);cases c)|(refine xc_if rfl (fun hc=>?_) (fun hc=>?_))|(refine xc_cond rfl (fun hc=>?_) (fun hc=>?_)))
    refine dn (k := ?_)
    refine tk 7 hX (hc := by cases f <;> kernel_rfl) (k := ?_)
    refine tk 8 hX (hc := by cases f <;> kernel_rfl) (k := ?_)
    refine tk 9 hX (hc := by cases f <;> kernel_rfl) (k := ?_)
    apply xa_pendE 10 (f := f) (X := X) hX hp; exact rfl; (first | (apply makes_alloc tabOk; exact rfl) | (apply makes_slice tabOk; exact rfl; exact rfl; exact rfl; exact rfl; exact rfl; (intro X; ((repeat (first | exact Bld.nil | (apply Bld.one; exact rfl; (conv => lhs; whnf); exact rfl; (repeat (first | exact PutL.nil | apply PutL.skip | apply PutL.cons))) | (apply Bld.agg; exact rfl; exact rfl; exact rfl; (repeat (first | exact PutL.nil | apply PutL.skip | apply PutL.cons))))))))); kernel_rfl; kernel_rfl; (intro X Y; (repeat (first | exact pgg_base | refine pgg_step ?_ (by exact rfl)))); (intro w' hs; ((first | exact se_hold hs.hold | exact se_hold (hold_sim hs.hold rfl) | exact se_hold (hold_sim hs.hold.tail rfl) | exact se_hold (hR hs rfl) | exact se_hold hs.hold.tail | exact se_hold hs.hold.tail.tail | exact se_hold hs.hold.tail.tail.tail | exact se_done rfl))); intro b w hI hs
    refine dt 11 hX (k := ?_)
    repeat' (first|refine vs (k:=?_)|refine ps (k:=?_)|((first|refine st hs (k:=?_)|refine stA hs (k:=?_));intro w hs)|((first|refine al hs (k:=?_)|refine bx hs (k:=?_)|refine bs hs (k:=?_));intro b w hz hs)|refine qRg ?_|refine Nx.h ?_|refine qBo ?_|refine qCt ?_|refine qCf ?_|((with_reducible apply xs_guard);exact rfl;exact rfl;intro c hc;(fail_if_success have:true=c:=hc);(fail_if_success have:false=c:=hc);cases c)|(refine xc_if rfl (fun hc=>?_) (fun hc=>?_))|(refine xc_cond rfl (fun hc=>?_) (fun hc=>?_)))
    refine dn (k := ?_)
    refine tk 12 hX (k := ?_)
    refine en (k := ?_)
    repeat' (first|refine vs (k:=?_)|refine ps (k:=?_)|((first|refine st hs (k:=?_)|refine stA hs (k:=?_));intro w hs)|((first|refine al hs (k:=?_)|refine bx hs (k:=?_)|refine bs hs (k:=?_));intro b w hz hs)|refine qRg ?_|refine Nx.h ?_|refine qBo ?_|refine qCt ?_|refine qCf ?_|((with_reducible apply xs_guard);exact rfl;exact rfl;intro c hc;(fail_if_success have:true=c:=hc);(fail_if_success have:false=c:=hc);cases c)|(refine xc_if rfl (fun hc=>?_) (fun hc=>?_))|(refine xc_cond rfl (fun hc=>?_) (fun hc=>?_)))
    first | refine rt (hq := ?_) | refine rt' (hq := ?_)
    exact ⟨rfl, hs.onlyF [] (by simp [h1]) (by simp [D0])⟩
abbrev qptrO (qb : Nat) : Obj := .cells #[.pointer (some ⟨qb, 0, none⟩)] 50 (0, 0)
theorem qelig_ret (qb tb mb bb : Nat) (m : Mn) (c : Int) (a : IT) (w0 : World) (hm : m.In) (h1 : w0.heap[qb]? = some (queueO m tb mb c)) (h2 : w0.heap[bb]? = some (qptrO qb)) : Ret Tryz.prog 39 #[iv a.1, .pointer (some ⟨bb, 0, none⟩)] w0 fun v w' => v = .bool (elig m a.1.p) ∧ Only [] w0 w' := by
  have n1 := blocks_ne h2 h1 (by decide)
  have hs := ((St.nil w0).track h1 (by simp)).track h2 (by simpa using n1)
  refine ret_of_xc Tryz.func39 (by kernel_rfl) rfl Tryz.ntmps39 rfl rfl rfl ?_; refine xc_seq ?_; refine xc_region ?_ ?_; exact rfl; refine bx hs (k := ?_); intro bq wq hzq hs; repeat' (first|refine vs (k:=?_)|refine ps (k:=?_)|((first|refine st hs (k:=?_)|refine stA hs (k:=?_));intro w hs)|((first|refine al hs (k:=?_)|refine bx hs (k:=?_)|refine bs hs (k:=?_));intro b w hz hs)|refine qRg ?_|refine Nx.h ?_|refine qBo ?_|refine qCt ?_|refine qCf ?_|((with_reducible apply xs_guard);exact rfl;exact rfl;intro c hc;(fail_if_success have:true=c:=hc);(fail_if_success have:false=c:=hc);cases c)|(refine xc_if rfl (fun hc=>?_) (fun hc=>?_))|(refine xc_cond rfl (fun hc=>?_) (fun hc=>?_)))
  refine dr [] hs (k := ?_); intro hX w hs
  refine tk 0 hX (k := ?_)
  refine tk 1 hX (k := ?_)
  refine tk 2 hX (k := ?_)
  refine tk 3 hX (k := ?_)
  refine tk 4 hX (k := ?_)
  refine tk 5 hX (k := ?_)
  refine dt 6 hX (k := ?_)
  (with_reducible apply xs_call); exact rfl; exact rfl; exact elig_ret m a.1.p hm a.2.1 _
  rintro v w' ⟨rfl, ho⟩; replace hs := hs.call0 ho; repeat' (first|refine vs (k:=?_)|refine ps (k:=?_)|((first|refine st hs (k:=?_)|refine stA hs (k:=?_));intro w hs)|((first|refine al hs (k:=?_)|refine bx hs (k:=?_)|refine bs hs (k:=?_));intro b w hz hs)|refine qRg ?_|refine Nx.h ?_|refine qBo ?_|refine qCt ?_|refine qCf ?_|((with_reducible apply xs_guard);exact rfl;exact rfl;intro c hc;(fail_if_success have:true=c:=hc);(fail_if_success have:false=c:=hc);cases c)|(refine xc_if rfl (fun hc=>?_) (fun hc=>?_))|(refine xc_cond rfl (fun hc=>?_) (fun hc=>?_)))
  refine dn (k := ?_)
  refine tk 7 hX (k := ?_)
  refine en (k := ?_)
  repeat' (first|refine vs (k:=?_)|refine ps (k:=?_)|((first|refine st hs (k:=?_)|refine stA hs (k:=?_));intro w hs)|((first|refine al hs (k:=?_)|refine bx hs (k:=?_)|refine bs hs (k:=?_));intro b w hz hs)|refine qRg ?_|refine Nx.h ?_|refine qBo ?_|refine qCt ?_|refine qCf ?_|((with_reducible apply xs_guard);exact rfl;exact rfl;intro c hc;(fail_if_success have:true=c:=hc);(fail_if_success have:false=c:=hc);cases c)|(refine xc_if rfl (fun hc=>?_) (fun hc=>?_))|(refine xc_cond rfl (fun hc=>?_) (fun hc=>?_)))
  first | refine rt (hq := ?_) | refine rt' (hq := ?_)
  exact ⟨rfl, hs.onlyF [] (by simp [h1, h2]) (by simp [D0])⟩
def soonQ (s : Qs) : Option IT := IB.foldT (fun a => elig s.m a.1.p) s.t none
set_option maxHeartbeats 4000000 in
theorem qsoonest_ret (qb : Nat) (s : Qs) (F : List Nat) (w0 : World) (h : QAt w0 qb s F) : Ret Tryz.prog 19 #[.pointer (some ⟨qb, 0, none⟩)] w0 fun v w' => v = .tuple #[iv (IB.valO (soonQ s)), .bool (soonQ s).isSome] ∧ Only [] w0 w' := by
  obtain ⟨tb, mb, Ft, rfl, h1, h2, h3, h4, h5⟩ := h
  have hs := (St.nil w0).track h1 (by simp)
  refine ret_of_xc Tryz.func19 (by kernel_rfl) rfl Tryz.ntmps19 rfl rfl rfl ?_
  refine xc_seq ?_
  refine xc_region ?_ ?_; exact rfl
  refine bx hs (k := ?_); intro bb w hz hs
  refine al hs (k := ?_); intro b2 w hz hs
  repeat' (first|refine vs (k:=?_)|refine ps (k:=?_)|((first|refine st hs (k:=?_)|refine stA hs (k:=?_));intro w hs)|((first|refine al hs (k:=?_)|refine bx hs (k:=?_)|refine bs hs (k:=?_));intro b w hz hs)|refine qRg ?_|refine Nx.h ?_|refine qBo ?_|refine qCt ?_|refine qCf ?_|((with_reducible apply xs_guard);exact rfl;exact rfl;intro c hc;(fail_if_success have:true=c:=hc);(fail_if_success have:false=c:=hc);cases c)|(refine xc_if rfl (fun hc=>?_) (fun hc=>?_))|(refine xc_cond rfl (fun hc=>?_) (fun hc=>?_)))
  have ho := hs.onlyF [] (by simp [h1]) (by simp [D0])
  have hq := hs.get (At.tail (At.tail At.head))
  have hb := hs.get (At.tail At.head)
  (with_reducible apply xs_call); exact rfl; exact rfl; exact IB.dsoonest_ret tb s.t Ft _ (h3.only ho) 39 [.pointer (some ⟨bb, 0, none⟩)] (fun a => elig s.m a.1.p) (fun y w _ hw => qelig_ret qb tb mb bb s.m s.c y w h4 (hw.block hq (by simp)) (hw.block hb (by simp)))
  rintro v w' ⟨rfl, ho⟩; replace hs := hs.call0 ho; repeat' (first|refine vs (k:=?_)|refine ps (k:=?_)|((first|refine st hs (k:=?_)|refine stA hs (k:=?_));intro w hs)|((first|refine al hs (k:=?_)|refine bx hs (k:=?_)|refine bs hs (k:=?_));intro b w hz hs)|refine qRg ?_|refine Nx.h ?_|refine qBo ?_|refine qCt ?_|refine qCf ?_|((with_reducible apply xs_guard);exact rfl;exact rfl;intro c hc;(fail_if_success have:true=c:=hc);(fail_if_success have:false=c:=hc);cases c)|(refine xc_if rfl (fun hc=>?_) (fun hc=>?_))|(refine xc_cond rfl (fun hc=>?_) (fun hc=>?_)))
  first | refine rt (hq := ?_) | refine rt' (hq := ?_)
  exact ⟨rfl, hs.onlyF [] (by simp [h1]) (by simp [D0])⟩
end Go.Proofs.YtegoaabjccignaaGreatDoorX

namespace Go.Proofs.YtegoaabjccignaaGreatDoorX
open Go Go.RowKit
attribute [local irreducible] XS XC XA thenE blockE retE loopE loopS cutB cutN doneE SE
def within (base : Int) (l : List It) : Bool := decide (spr base l ≤ 4611686018427387904)
theorem within_ret (base : Int) (l : List It) (sl : Value) (hm : l.length ≤ 1000000) (w0 : World) (hP : ItsAt w0 sl l) :
    Ret Tryz.prog 50 #[.int .u64 base, sl] w0 fun v w' => v = .bool (within base l) ∧ Only [] w0 w' := by
  obtain ⟨ad, cap, rfl, hD⟩ := id hP
  have hs := St.nil w0
  refine ret_of_xc Tryz.func50 (by kernel_rfl) rfl Tryz.ntmps50 rfl rfl rfl ?_
  repeat' (first|refine vs (k:=?_)|refine ps (k:=?_)|((first|refine st hs (k:=?_)|refine stA hs (k:=?_));intro w hs)|((first|refine al hs (k:=?_)|refine bx hs (k:=?_)|refine bs hs (k:=?_));intro b w hz hs)|refine qRg ?_|refine Nx.h ?_|refine qBo ?_|refine qCt ?_|refine qCf ?_|((with_reducible apply xs_guard);exact rfl;exact rfl;intro c hc;(fail_if_success have:true=c:=hc);(fail_if_success have:false=c:=hc);cases c)|(refine xc_if rfl (fun hc=>?_) (fun hc=>?_))|(refine xc_cond rfl (fun hc=>?_) (fun hc=>?_)))
  (with_reducible apply xs_call); exact rfl; exact rfl; exact spread_ret base l _ hm _ (hP.only (hs.only0 rfl))
  rintro v w' ⟨rfl, ho⟩; replace hs := hs.call0 ho; repeat' (first|refine vs (k:=?_)|refine ps (k:=?_)|((first|refine st hs (k:=?_)|refine stA hs (k:=?_));intro w hs)|((first|refine al hs (k:=?_)|refine bx hs (k:=?_)|refine bs hs (k:=?_));intro b w hz hs)|refine qRg ?_|refine Nx.h ?_|refine qBo ?_|refine qCt ?_|refine qCf ?_|((with_reducible apply xs_guard);exact rfl;exact rfl;intro c hc;(fail_if_success have:true=c:=hc);(fail_if_success have:false=c:=hc);cases c)|(refine xc_if rfl (fun hc=>?_) (fun hc=>?_))|(refine xc_cond rfl (fun hc=>?_) (fun hc=>?_)))
  first | refine rt (hq := ?_) | refine rt' (hq := ?_)
  exact ⟨rfl, hs.only0 rfl⟩
theorem room0_ret (w0 : World) : Ret Tryz.prog 158 #[.int .u64 0, .slice none 0 0] w0 fun v w' => v = .int .u64 4611686018427387904 ∧ Only [] w0 w' := by
  have hs := St.nil w0
  refine ret_of_xc Tryz.func158 (by kernel_rfl) rfl Tryz.ntmps158 rfl rfl rfl ?_
  repeat' (first|refine vs (k:=?_)|refine ps (k:=?_)|((first|refine st hs (k:=?_)|refine stA hs (k:=?_));intro w hs)|((first|refine al hs (k:=?_)|refine bx hs (k:=?_)|refine bs hs (k:=?_));intro b w hz hs)|refine qRg ?_|refine Nx.h ?_|refine qBo ?_|refine qCt ?_|refine qCf ?_|((with_reducible apply xs_guard);exact rfl;exact rfl;intro c hc;(fail_if_success have:true=c:=hc);(fail_if_success have:false=c:=hc);cases c)|(refine xc_if rfl (fun hc=>?_) (fun hc=>?_))|(refine xc_cond rfl (fun hc=>?_) (fun hc=>?_)))
  (with_reducible apply xs_call); exact rfl; exact rfl; exact within_ret 0 [] _ (by simp) _ (LsAt.nil _ _ _)
  rw [show within 0 [] = true from by decide]
  rintro v w' ⟨rfl, ho⟩; replace hs := hs.call0 ho; repeat' (first|refine vs (k:=?_)|refine ps (k:=?_)|((first|refine st hs (k:=?_)|refine stA hs (k:=?_));intro w hs)|((first|refine al hs (k:=?_)|refine bx hs (k:=?_)|refine bs hs (k:=?_));intro b w hz hs)|refine qRg ?_|refine Nx.h ?_|refine qBo ?_|refine qCt ?_|refine qCf ?_|((with_reducible apply xs_guard);exact rfl;exact rfl;intro c hc;(fail_if_success have:true=c:=hc);(fail_if_success have:false=c:=hc);cases c)|(refine xc_if rfl (fun hc=>?_) (fun hc=>?_))|(refine xc_cond rfl (fun hc=>?_) (fun hc=>?_)))
  (with_reducible apply xs_call); exact rfl; exact rfl; exact spread_ret 0 [] _ (by simp) _ (LsAt.nil _ _ _)
  rw [show spr 0 [] = 0 from by decide]
  rintro v w' ⟨rfl, ho⟩; replace hs := hs.call0 ho; repeat' (first|refine vs (k:=?_)|refine ps (k:=?_)|((first|refine st hs (k:=?_)|refine stA hs (k:=?_));intro w hs)|((first|refine al hs (k:=?_)|refine bx hs (k:=?_)|refine bs hs (k:=?_));intro b w hz hs)|refine qRg ?_|refine Nx.h ?_|refine qBo ?_|refine qCt ?_|refine qCf ?_|((with_reducible apply xs_guard);exact rfl;exact rfl;intro c hc;(fail_if_success have:true=c:=hc);(fail_if_success have:false=c:=hc);cases c)|(refine xc_if rfl (fun hc=>?_) (fun hc=>?_))|(refine xc_cond rfl (fun hc=>?_) (fun hc=>?_)))
  first | refine rt (hq := ?_) | refine rt' (hq := ?_)
  exact ⟨rfl, hs.only0 rfl⟩
end Go.Proofs.YtegoaabjccignaaGreatDoorX
