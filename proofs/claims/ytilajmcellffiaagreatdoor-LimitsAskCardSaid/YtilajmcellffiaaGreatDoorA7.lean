/- A part of the proof: what its functions compute. -/
import Derived.Test.YtilajmcellffiaaGreatDoorA6
set_option linter.unusedVariables false
set_option linter.unusedSimpArgs false
set_option maxRecDepth 100000
namespace Go.Proofs.YtilajmcellffiaaGreatDoorX
open Go Go.RowKit
attribute [local irreducible] XS XC XA thenE blockE retE loopE loopS cutB cutN doneE SE
def lessM (m : Mn) (p : Pt) : Mn := ⟨m.b, m.a - dist p m.b, m.w - p.w, m.n - 1⟩
def takM (m : Mn) (p : Pt) : Option Mn := if m.right = true ∧ p.right = true ∧ m.n ≠ 0 ∧ p.w ≤ m.w ∧ InW (m.a - dist p m.b) ∧ (lessM m p).right = true then some (lessM m p) else none
theorem takM_in {m : Mn} {p : Pt} {o : Mn} (hm : m.In) (h : takM m p = some o) : o.In := by
  unfold takM at h
  split at h
  · rename_i hc
    cases h
    obtain ⟨h1, h2, h3, h4, h5, h6⟩ := hc
    have h1 := mright_iff.1 h1
    have h2 := pright_iff.1 h2
    refine ⟨hm.1, h5, ?_, ?_⟩
    · show 0 ≤ m.w - p.w ∧ m.w - p.w < 18446744073709551616; omega
    · show -9223372036854775808 ≤ m.n - 1 ∧ m.n - 1 < 9223372036854775808; omega
  · cases h
set_option maxHeartbeats 4000000 in
theorem mtake_ret (m : Mn) (p : Pt) (hm : m.In) (hp' : p.In) (w0 : World) : Ret Tryz.prog 137 #[mv m, pv p] w0 fun v w' => v = mnV (takM m p) ∧ Only [] w0 w' := by
  have hs := St.nil w0
  refine ret_of_xc Tryz.func137 (by kernel_rfl) rfl Tryz.ntmps137 rfl rfl rfl ?_
  repeat' (first|refine vs (k:=?_)|(refine al hs (k:=?_);intro b w hz hs)|(refine bx hs (k:=?_);intro b w hz hs)|refine qRg ?_|refine Nx.h ?_|fail)
  (with_reducible apply xs_call); exact rfl; exact rfl; exact mright_ret m _
  rintro v w' ⟨rfl, ho⟩; replace hs := hs.call0 ho; repeat' (first|refine vs (k:=?_)|refine ps (k:=?_)|(refine stA hs (k:=?_);intro w hs)|refine qRg ?_|refine Nx.h ?_|refine qCt ?_|((with_reducible apply xs_guard);exact rfl;exact rfl;intro c hc;(fail_if_success have:true=c:=hc);(fail_if_success have:false=c:=hc);cases c)|fail)
  · (with_reducible apply xs_call); exact rfl; exact rfl; exact pright_ret p _
    rintro v w' ⟨rfl, ho⟩; replace hs := hs.call0 ho; repeat' (first|refine vs (k:=?_)|refine ps (k:=?_)|(refine stA hs (k:=?_);intro w hs)|refine qRg ?_|refine Nx.h ?_|refine qCt ?_|((with_reducible apply xs_guard);exact rfl;exact rfl;intro c hc;(fail_if_success have:true=c:=hc);(fail_if_success have:false=c:=hc);cases c)|(refine xc_if rfl (fun hc=>?_) (fun hc=>?_))|fail)
    · simp only [wrap_u64] at hc
      have hU := hp'.2.2
      unfold U32 at hU
      first | refine rt (hq := ?_) | refine rt' (hq := ?_)
      refine ⟨?_, hs.only0 rfl⟩
      have : takM m p = none := by unfold takM; rw [if_neg (fun h => by have := h.2.2.2.1; omega)]
      rw [this]; rfl
    · have h1 : m.right = true := by simpa using ‹(!m.right) = false›
      have h2 : p.right = true := by simpa using ‹(!p.right) = false›
      have h3 : m.n ≠ 0 := by simpa using ‹(m.n == 0) = false›
      have hU := hp'.2.2
      have e0 := u64_of32 hU
      have hc' : p.w ≤ m.w := by rw [e0] at hc; omega
      have h5 := mright_iff.1 h1
      have h6 := pright_iff.1 h2
      refine dr [] hs (k := ?_); intro hX w hs
      refine tk 0 hX (k := ?_)
      refine tk 1 hX (k := ?_)
      refine tk 2 hX (k := ?_)
      refine tk 3 hX (k := ?_)
      refine tk 4 hX (k := ?_)
      refine pd0 10 6 hs (k := ?_); intro f X w hp; have hs := hp.st
      apply xa_pend 5 10 (f := f) (X := X) hX hp; exact rfl; exact rfl; (first | (apply makes_alloc tabOk; exact rfl) | (apply makes_slice tabOk; exact rfl; exact rfl; exact rfl; exact rfl; exact rfl; (intro X; ((repeat (first | exact Bld.nil | (apply Bld.one; exact rfl; (conv => lhs; whnf); exact rfl; (repeat (first | exact PutL.nil | apply PutL.skip | apply PutL.cons))) | (apply Bld.agg; exact rfl; exact rfl; exact rfl; (repeat (first | exact PutL.nil | apply PutL.skip | apply PutL.cons))))))))); kernel_rfl; kernel_rfl; kernel_rfl; kernel_rfl; (intro X Y; (repeat (first | exact pgg_base | refine pgg_step ?_ (by exact rfl)))); (intro w' hs; ((first | exact se_hold hs.hold | exact se_hold (hold_sim hs.hold rfl) | exact se_hold (hold_sim hs.hold.tail rfl) | exact se_hold (hR hs rfl) | exact se_hold hs.hold.tail | exact se_hold hs.hold.tail.tail | exact se_hold hs.hold.tail.tail.tail | exact se_done rfl))); intro f X w hp; have hs := hp.st
      (with_reducible apply xs_call); exact rfl; exact rfl; exact dist_ret p m.b hp' _
      rintro v w' ⟨rfl, ho⟩; replace hp := hp.only ho; replace hs := hp.st; repeat' (first|refine Nx.h ?_|fail)
      refine dn (k := ?_)
      apply xa_pend 6 10 (f := f) (X := X) hX hp; exact rfl; exact rfl; (first | (apply makes_alloc tabOk; exact rfl) | (apply makes_slice tabOk; exact rfl; exact rfl; exact rfl; exact rfl; exact rfl; (intro X; ((repeat (first | exact Bld.nil | (apply Bld.one; exact rfl; (conv => lhs; whnf); exact rfl; (repeat (first | exact PutL.nil | apply PutL.skip | apply PutL.cons))) | (apply Bld.agg; exact rfl; exact rfl; exact rfl; (repeat (first | exact PutL.nil | apply PutL.skip | apply PutL.cons))))))))); kernel_rfl; kernel_rfl; kernel_rfl; kernel_rfl; (intro X Y; (repeat (first | exact pgg_base | refine pgg_step ?_ (by exact rfl)))); (intro w' hs; ((first | exact se_hold hs.hold | exact se_hold (hold_sim hs.hold rfl) | exact se_hold (hold_sim hs.hold.tail rfl) | exact se_hold (hR hs rfl) | exact se_hold hs.hold.tail | exact se_hold hs.hold.tail.tail | exact se_hold hs.hold.tail.tail.tail | exact se_done rfl))); intro f X w hp; have hs := hp.st
      (with_reducible apply xs_call); exact rfl; exact rfl; exact sub_t m.a (dist p m.b) hm.2.1 (dist_in hp' _) _
      rintro v w' ⟨rfl, ho⟩; replace hp := hp.only ho; replace hs := hp.st; repeat' (first|refine Nx.h ?_|fail)
      refine dn (k := ?_)
      refine tk 7 hX (hc := by cases f <;> kernel_rfl) (k := ?_)
      refine tk 8 hX (hc := by cases f <;> kernel_rfl) (k := ?_)
      refine tk 9 hX (hc := by cases f <;> kernel_rfl) (k := ?_)
      apply xa_pendE 10 (f := f) (X := X) hX hp; exact rfl; (first | (apply makes_alloc tabOk; exact rfl) | (apply makes_slice tabOk; exact rfl; exact rfl; exact rfl; exact rfl; exact rfl; (intro X; ((repeat (first | exact Bld.nil | (apply Bld.one; exact rfl; (conv => lhs; whnf); exact rfl; (repeat (first | exact PutL.nil | apply PutL.skip | apply PutL.cons))) | (apply Bld.agg; exact rfl; exact rfl; exact rfl; (repeat (first | exact PutL.nil | apply PutL.skip | apply PutL.cons))))))))); kernel_rfl; kernel_rfl; (intro X Y; (repeat (first | exact pgg_base | refine pgg_step ?_ (by exact rfl)))); (intro w' hs; ((first | exact se_hold hs.hold | exact se_hold (hold_sim hs.hold rfl) | exact se_hold (hold_sim hs.hold.tail rfl) | exact se_hold (hR hs rfl) | exact se_hold hs.hold.tail | exact se_hold hs.hold.tail.tail | exact se_hold hs.hold.tail.tail.tail | exact se_done rfl))); intro b w hI hs
      refine dt 11 hX (k := ?_)
      repeat' (first|(refine stA hs (k:=?_);intro w hs)|refine Nx.h ?_|fail)
      refine dn (k := ?_)
      refine tk 12 hX (k := ?_)
      refine en (k := ?_)
      repeat' (first|refine vs (k:=?_)|refine ps (k:=?_)|(refine stA hs (k:=?_);intro w hs)|(refine al hs (k:=?_);intro b w hz hs)|refine qRg ?_|refine Nx.h ?_|refine qCt ?_|((with_reducible apply xs_guard);exact rfl;exact rfl;intro c hc;(fail_if_success have:true=c:=hc);(fail_if_success have:false=c:=hc);cases c)|fail)
      · have h4 : InW (m.a - dist p m.b) := by simpa using hc
        have e1 : tot (m.a - dist p m.b) = m.a - dist p m.b := if_pos h4
        have e2 : IntKind.u64.wrap (m.w - IntKind.u64.wrap p.w) = m.w - p.w := by simp only [wrap_u64]; omega
        have e3 : IntKind.i64.wrap (m.n - 1) = m.n - 1 := by simp only [wrap_i64]; omega
        (with_reducible apply xs_call); exact rfl; exact rfl; exact mright_ret ⟨m.b, tot (m.a - dist p m.b), IntKind.u64.wrap (m.w - IntKind.u64.wrap p.w), IntKind.i64.wrap (m.n - 1)⟩ _
        rw [show (⟨m.b, tot (m.a - dist p m.b), IntKind.u64.wrap (m.w - IntKind.u64.wrap p.w), IntKind.i64.wrap (m.n - 1)⟩ : Mn) = lessM m p by rw [e1, e2, e3]; rfl]
        rintro v w' ⟨rfl, ho⟩; replace hs := hs.call0 ho; repeat' (first|refine vs (k:=?_)|(refine stA hs (k:=?_);intro w hs)|refine qRg ?_|refine Nx.h ?_|(refine xc_cond rfl (fun hc=>?_) (fun hc=>?_))|fail)
        · first | refine rt (hq := ?_) | refine rt' (hq := ?_)
          refine ⟨?_, hs.only0 rfl⟩
          have h7 : (lessM m p).right = false := by simpa using hc
          have : takM m p = none := by unfold takM; rw [if_neg (fun h => by rw [h7] at h; cases h.2.2.2.2.2)]
          rw [this]; rfl
        · first | refine rt (hq := ?_) | refine rt' (hq := ?_)
          refine ⟨?_, hs.only0 rfl⟩
          have h7 : (lessM m p).right = true := by simpa using hc
          have : takM m p = some (lessM m p) := by unfold takM; rw [if_pos ⟨h1, h2, h3, hc', h4, h7⟩]
          rw [this, e1, e2, e3]; rfl
      · first | refine rt (hq := ?_) | refine rt' (hq := ?_)
        refine ⟨?_, hs.only0 rfl⟩
        have h4 : ¬ InW (m.a - dist p m.b) := by simpa using hc
        have : takM m p = none := by unfold takM; rw [if_neg (fun h => h4 h.2.2.2.2.1)]
        rw [this]; rfl
    · first | refine rt (hq := ?_) | refine rt' (hq := ?_)
      refine ⟨?_, hs.only0 rfl⟩
      have : takM m p = none := by unfold takM; rw [if_neg (fun h => h.2.2.1 (by simpa using hc))]
      rw [this]; rfl
    · first | refine rt (hq := ?_) | refine rt' (hq := ?_)
      refine ⟨?_, hs.only0 rfl⟩
      have : takM m p = none := by unfold takM; rw [if_neg (fun h => absurd h.2.1 (by simpa using hc))]
      rw [this]; rfl
  · first | refine rt (hq := ?_) | refine rt' (hq := ?_)
    refine ⟨?_, hs.only0 rfl⟩
    have h2 : m.right = false := by simpa using hc
    have : takM m p = none := by unfold takM; rw [if_neg (fun h => by rw [h2] at h; cases h.1)]
    rw [this]; rfl
def rebM (m : Mn) (t : Int) : Option Mn := if m.right = true ∧ InW (m.a - m.w * sn t m.b) then some ⟨t, m.a - m.w * sn t m.b, m.w, m.n⟩ else none
theorem rebM_in {m : Mn} {t : Int} {o : Mn} (hm : m.In) (ht : U64 t) (h : rebM m t = some o) : o.In := by
  unfold rebM at h
  split at h
  · rename_i hc
    cases h
    exact ⟨ht, hc.2, hm.2.2⟩
  · cases h
set_option maxHeartbeats 4000000 in
theorem rebase_ret (m : Mn) (t : Int) (hm : m.In) (w0 : World) : Ret Tryz.prog 179 #[mv m, .int .u64 t] w0 fun v w' => v = mnV (rebM m t) ∧ Only [] w0 w' := by
  have hs := St.nil w0
  refine ret_of_xc Tryz.func179 (by kernel_rfl) rfl Tryz.ntmps179 rfl rfl rfl ?_
  repeat' (first|refine vs (k:=?_)|(refine al hs (k:=?_);intro b w hz hs)|(refine bx hs (k:=?_);intro b w hz hs)|refine qRg ?_|refine Nx.h ?_|fail)
  (with_reducible apply xs_call); exact rfl; exact rfl; exact mright_ret m _
  rintro v w' ⟨rfl, ho⟩; replace hs := hs.call0 ho; repeat' (first|refine vs (k:=?_)|(refine stA hs (k:=?_);intro w hs)|refine qRg ?_|refine Nx.h ?_|(refine xc_cond rfl (fun hc=>?_) (fun hc=>?_))|fail)
  · first | refine rt (hq := ?_) | refine rt' (hq := ?_)
    refine ⟨?_, hs.only0 rfl⟩
    have h2 : m.right = false := by simpa using hc
    have : rebM m t = none := by unfold rebM; rw [if_neg (fun h => by rw [h2] at h; cases h.1)]
    rw [this]; rfl
  · have h1 : m.right = true := by simpa using hc
    have h5 := mright_iff.1 h1
    have h6 := sn_rng t m.b
    have h7 := mul_rng (w := m.w) (s := sn t m.b) (W := 33554432) (S := 9223372036854775808) hm.2.2.1.1 (by omega) (by omega) (by omega)
    have hU := hm.2.2.1
    refine dr [] hs (k := ?_); intro hX w hs
    refine tk 0 hX (k := ?_)
    refine tk 1 hX (k := ?_)
    refine tk 3 hX (k := ?_)
    refine tk 4 hX (k := ?_)
    refine tk 5 hX (k := ?_)
    refine pd0 11 6 hs (k := ?_); intro f X w hp; have hs := hp.st
    apply xa_pend 2 11 (f := f) (X := X) hX hp; exact rfl; exact rfl; (first | (apply makes_alloc tabOk; exact rfl) | (apply makes_slice tabOk; exact rfl; exact rfl; exact rfl; exact rfl; exact rfl; (intro X; ((repeat (first | exact Bld.nil | (apply Bld.one; exact rfl; (conv => lhs; whnf); exact rfl; (repeat (first | exact PutL.nil | apply PutL.skip | apply PutL.cons))) | (apply Bld.agg; exact rfl; exact rfl; exact rfl; (repeat (first | exact PutL.nil | apply PutL.skip | apply PutL.cons))))))))); kernel_rfl; kernel_rfl; kernel_rfl; kernel_rfl; (intro X Y; (repeat (first | exact pgg_base | refine pgg_step ?_ (by exact rfl)))); (intro w' hs; ((first | exact se_hold hs.hold | exact se_hold (hold_sim hs.hold rfl) | exact se_hold (hold_sim hs.hold.tail rfl) | exact se_hold (hR hs rfl) | exact se_hold hs.hold.tail | exact se_hold hs.hold.tail.tail | exact se_hold hs.hold.tail.tail.tail | exact se_done rfl))); intro f X w hp; have hs := hp.st
    (with_reducible apply xs_call); exact rfl; exact rfl; exact ofU_ret m.w hU.1 hU.2 _
    rintro v w' ⟨rfl, ho⟩; replace hp := hp.only ho; replace hs := hp.st; repeat' (first|refine Nx.h ?_|fail)
    refine dn (k := ?_)
    apply xa_pend 6 11 (f := f) (X := X) hX hp; exact rfl; exact rfl; (first | (apply makes_alloc tabOk; exact rfl) | (apply makes_slice tabOk; exact rfl; exact rfl; exact rfl; exact rfl; exact rfl; (intro X; ((repeat (first | exact Bld.nil | (apply Bld.one; exact rfl; (conv => lhs; whnf); exact rfl; (repeat (first | exact PutL.nil | apply PutL.skip | apply PutL.cons))) | (apply Bld.agg; exact rfl; exact rfl; exact rfl; (repeat (first | exact PutL.nil | apply PutL.skip | apply PutL.cons))))))))); kernel_rfl; kernel_rfl; kernel_rfl; kernel_rfl; (intro X Y; (repeat (first | exact pgg_base | refine pgg_step ?_ (by exact rfl)))); (intro w' hs; ((first | exact se_hold hs.hold | exact se_hold (hold_sim hs.hold rfl) | exact se_hold (hold_sim hs.hold.tail rfl) | exact se_hold (hR hs rfl) | exact se_hold hs.hold.tail | exact se_hold hs.hold.tail.tail | exact se_hold hs.hold.tail.tail.tail | exact se_done rfl))); intro f X w hp; have hs := hp.st
    (with_reducible apply xs_call); exact rfl; exact rfl; exact since_ret t m.b _
    rintro v w' ⟨rfl, ho⟩; replace hp := hp.only ho; replace hs := hp.st; repeat' (first|refine Nx.h ?_|fail)
    refine dn (k := ?_)
    apply xa_pend 7 11 (f := f) (X := X) hX hp; exact rfl; exact rfl; (first | (apply makes_alloc tabOk; exact rfl) | (apply makes_slice tabOk; exact rfl; exact rfl; exact rfl; exact rfl; exact rfl; (intro X; ((repeat (first | exact Bld.nil | (apply Bld.one; exact rfl; (conv => lhs; whnf); exact rfl; (repeat (first | exact PutL.nil | apply PutL.skip | apply PutL.cons))) | (apply Bld.agg; exact rfl; exact rfl; exact rfl; (repeat (first | exact PutL.nil | apply PutL.skip | apply PutL.cons))))))))); kernel_rfl; kernel_rfl; kernel_rfl; kernel_rfl; (intro X Y; (repeat (first | exact pgg_base | refine pgg_step ?_ (by exact rfl)))); (intro w' hs; ((first | exact se_hold hs.hold | exact se_hold (hold_sim hs.hold rfl) | exact se_hold (hold_sim hs.hold.tail rfl) | exact se_hold (hR hs rfl) | exact se_hold hs.hold.tail | exact se_hold hs.hold.tail.tail | exact se_hold hs.hold.tail.tail.tail | exact se_done rfl))); intro f X w hp; have hs := hp.st
    (with_reducible apply xs_call); exact rfl; exact rfl; exact mul_ok m.w (sn t m.b) (by unfold InW; omega) (by omega) (by omega) (by unfold InW; omega) _
    rintro v w' ⟨rfl, ho⟩; replace hp := hp.only ho; replace hs := hp.st; repeat' (first|refine Nx.h ?_|fail)
    refine dn (k := ?_)
    refine tk 8 hX (hc := by cases f <;> kernel_rfl) (k := ?_)
    refine tk 9 hX (hc := by cases f <;> kernel_rfl) (k := ?_)
    refine tk 10 hX (hc := by cases f <;> kernel_rfl) (k := ?_)
    apply xa_pendE 11 (f := f) (X := X) hX hp; exact rfl; (first | (apply makes_alloc tabOk; exact rfl) | (apply makes_slice tabOk; exact rfl; exact rfl; exact rfl; exact rfl; exact rfl; (intro X; ((repeat (first | exact Bld.nil | (apply Bld.one; exact rfl; (conv => lhs; whnf); exact rfl; (repeat (first | exact PutL.nil | apply PutL.skip | apply PutL.cons))) | (apply Bld.agg; exact rfl; exact rfl; exact rfl; (repeat (first | exact PutL.nil | apply PutL.skip | apply PutL.cons))))))))); kernel_rfl; kernel_rfl; (intro X Y; (repeat (first | exact pgg_base | refine pgg_step ?_ (by exact rfl)))); (intro w' hs; ((first | exact se_hold hs.hold | exact se_hold (hold_sim hs.hold rfl) | exact se_hold (hold_sim hs.hold.tail rfl) | exact se_hold (hR hs rfl) | exact se_hold hs.hold.tail | exact se_hold hs.hold.tail.tail | exact se_hold hs.hold.tail.tail.tail | exact se_done rfl))); intro b w hI hs
    refine dt 12 hX (k := ?_)
    repeat' (first|(refine stA hs (k:=?_);intro w hs)|refine Nx.h ?_|fail)
    refine dn (k := ?_)
    refine tk 13 hX (k := ?_)
    refine en (k := ?_)
    repeat' (first|refine vs (k:=?_)|refine qRg ?_|refine Nx.h ?_|fail)
    (with_reducible apply xs_call); exact rfl; exact rfl; exact sub_t m.a (m.w * sn t m.b) hm.2.1 (by unfold InW; omega) _
    rintro v w' ⟨rfl, ho⟩; replace hs := hs.call0 ho; repeat' (first|refine vs (k:=?_)|(refine stA hs (k:=?_);intro w hs)|(refine al hs (k:=?_);intro b w hz hs)|refine qRg ?_|refine Nx.h ?_|(refine xc_cond rfl (fun hc=>?_) (fun hc=>?_))|fail)
    · first | refine rt (hq := ?_) | refine rt' (hq := ?_)
      refine ⟨?_, hs.only0 rfl⟩
      have h4 : ¬ InW (m.a - m.w * sn t m.b) := by simpa using hc
      have : rebM m t = none := by unfold rebM; rw [if_neg (fun h => h4 h.2)]
      rw [this]; rfl
    · first | refine rt (hq := ?_) | refine rt' (hq := ?_)
      refine ⟨?_, hs.only0 rfl⟩
      have h4 : InW (m.a - m.w * sn t m.b) := by simpa using hc
      have : rebM m t = some ⟨t, m.a - m.w * sn t m.b, m.w, m.n⟩ := by unfold rebM; rw [if_pos ⟨h1, h4⟩]
      have e1 : tot (m.a - m.w * sn t m.b) = m.a - m.w * sn t m.b := if_pos h4
      rw [this, e1]; rfl
def flM (m : Mn) : Option Int := if m.right = true ∧ m.n ≠ 0 ∧ In64 (m.a / m.w) then some (lat m.b (m.a / m.w)) else none
def tmV (o : Option Int) : Value := .tuple #[.int .u64 (o.getD 0), .bool o.isSome]
set_option maxHeartbeats 2000000 in
theorem floor_ret (m : Mn) (hm : m.In) (w0 : World) : Ret Tryz.prog 69 #[mv m] w0 fun v w' => v = tmV (flM m) ∧ Only [] w0 w' := by
  have hs := St.nil w0
  refine ret_of_xc Tryz.func69 (by kernel_rfl) rfl Tryz.ntmps69 rfl rfl rfl ?_
  repeat' (first|refine vs (k:=?_)|(refine bx hs (k:=?_);intro b w hz hs)|refine qRg ?_|refine Nx.h ?_|fail)
  (with_reducible apply xs_call); exact rfl; exact rfl; exact mright_ret m _
  rintro v w' ⟨rfl, ho⟩; replace hs := hs.call0 ho; repeat' (first|refine vs (k:=?_)|refine ps (k:=?_)|refine qRg ?_|refine Nx.h ?_|refine qCt ?_|((with_reducible apply xs_guard);exact rfl;exact rfl;intro c hc;(fail_if_success have:true=c:=hc);(fail_if_success have:false=c:=hc);cases c)|(refine xc_if rfl (fun hc=>?_) (fun hc=>?_))|fail)
  · first | refine rt (hq := ?_) | refine rt' (hq := ?_)
    refine ⟨?_, hs.only0 rfl⟩
    have : flM m = none := by unfold flM; rw [if_neg (fun h => h.2.1 ‹_›)]
    rw [this]; rfl
  · have h1 : m.right = true := by simpa using ‹(!m.right) = false›
    have h5 := mright_iff.1 h1
    have hU := hm.2.2.1
    (with_reducible apply xs_call); exact rfl; exact rfl; exact div_ok m.a m.w hm.2.1 (by omega) hU.2 _
    rintro v w' ⟨rfl, ho⟩; replace hs := hs.call0 ho; repeat' (first|refine vs (k:=?_)|(refine stA hs (k:=?_);intro w hs)|(refine al hs (k:=?_);intro b w hz hs)|refine qRg ?_|refine Nx.h ?_|fail)
    (with_reducible apply xs_call); exact rfl; exact rfl; exact small_t (m.a / m.w) (div_in hm.2.1 (by omega)) _
    rintro v w' ⟨rfl, ho⟩; replace hs := hs.call0 ho; repeat' (first|refine vs (k:=?_)|refine qRg ?_|refine Nx.h ?_|(refine xc_cond rfl (fun hc=>?_) (fun hc=>?_))|fail)
    · first | refine rt (hq := ?_) | refine rt' (hq := ?_)
      refine ⟨?_, hs.only0 rfl⟩
      have h4 : ¬ In64 (m.a / m.w) := by simpa using hc
      have : flM m = none := by unfold flM; rw [if_neg (fun h => h4 h.2.2)]
      rw [this]; rfl
    · have h4 : In64 (m.a / m.w) := by simpa using hc
      (with_reducible apply xs_call); exact rfl; exact rfl; exact vadd_ret m.b (sml (m.a / m.w)) _
      rintro v w' ⟨rfl, ho⟩; replace hs := hs.call0 ho; repeat' (first|refine vs (k:=?_)|refine Nx.h ?_|fail)
      first | refine rt (hq := ?_) | refine rt' (hq := ?_)
      refine ⟨?_, hs.only0 rfl⟩
      have : flM m = some (lat m.b (m.a / m.w)) := by unfold flM; rw [if_pos ⟨h1, ‹_›, h4⟩]
      have e1 : sml (m.a / m.w) = m.a / m.w := if_pos h4
      rw [this, e1]; rfl
  · first | refine rt (hq := ?_) | refine rt' (hq := ?_)
    refine ⟨?_, hs.only0 rfl⟩
    have h2 : m.right = false := by simpa using hc
    have : flM m = none := by unfold flM; rw [if_neg (fun h => by rw [h2] at h; cases h.1)]
    rw [this]; rfl
theorem inW0 : InW 0 := by decide
theorem u640 : U64 0 := by decide
theorem in640 : In64 0 := by decide
def ofL : Mn → List Pt → Option Mn
  | m, [] => some m
  | m, p :: ps => (addM m p).bind fun m => ofL m ps
def ofM (base : Int) (ps : List Pt) : Option Mn := ofL ⟨base, 0, 0, 0⟩ ps
theorem ofL_snoc : ∀ (l : List Pt) (m : Mn) (p : Pt), ofL m (l ++ [p]) = (ofL m l).bind fun m => addM m p
  | [], m, p => by
    simp only [List.nil_append, ofL, Option.bind_some]
    cases addM m p <;> rfl
  | q :: l, m, p => by
    simp only [List.cons_append, ofL]
    cases addM m q with
    | none => rfl
    | some m' => exact ofL_snoc l m' p
theorem ofL_none : ∀ (l r : List Pt) (m : Mn), ofL m l = none → ofL m (l ++ r) = none
  | [], r, m, h => by simp [ofL] at h
  | q :: l, r, m, h => by
    simp only [List.cons_append, ofL] at h ⊢
    cases h1 : addM m q with
    | none => rfl
    | some m' => rw [h1] at h; exact ofL_none l r m' h
set_option maxHeartbeats 4000000 in
theorem of_mean_ret (base : Int) (ps : List Pt) (sl : Value) (hbase : U64 base) (hps : ∀ p ∈ ps, p.In) (hlen : ps.length ≤ 9223372036854775807) (w0 : World) (hP : PsAt w0 sl ps) :
    Ret Tryz.prog 247 #[.int .u64 base, sl] w0 fun v w' => v = mnV (ofM base ps) ∧ Only [] w0 w' := by
  obtain ⟨ad, cap, rfl, hD⟩ := hP
  rw [List.length_map] at *
  have hs := St.nil w0
  refine ret_of_xc Tryz.func247 (by kernel_rfl) rfl Tryz.ntmps247 rfl rfl rfl ?_
  refine xc_seq ?_
  refine xc_region ?_ ?_; exact rfl
  refine al hs (k := ?_); intro b4 w hz hs
  repeat' (first|refine vs (k:=?_)|refine Nx.h ?_|fail)
  refine xc_region ?_ ?_; exact rfl
  refine vs (k := ?_)
  refine vs (k := ?_)
  refine al hs (k := ?_); intro b6 w hz hs
  repeat' (first|refine vs (k:=?_)|(refine stA hs (k:=?_);intro w hs)|refine qRg ?_|refine Nx.h ?_|fail)
  refine xc_cutB (fun (_ : Mn) => [(4, .pointer (some ⟨b4, 0, none⟩)), (6, .pointer (some ⟨b6, 0, none⟩))]) (fun m w => ofM base ps = some m ∧ St w0 D0 [(b6, .cells m.cells.toArray 130, true), (b4, .cells Mn.zero.cells.toArray 130, true)] w) ?_ ?_
  · refine xc_loopS (fun (s : Nat × Mn) => [(4, .pointer (some ⟨b4, 0, none⟩)), (6, .pointer (some ⟨b6, 0, none⟩)), (13, .slice ad ps.length cap), (14, .int .i64 (ps.length : Nat)), (15, .int .i64 (s.1 : Nat))])
      (fun s w => s.1 ≤ ps.length ∧ ofM base (ps.take s.1) = some s.2 ∧ s.2.In ∧ St w0 D0 [(b6, .cells s.2.cells.toArray 130, true), (b4, .cells Mn.zero.cells.toArray 130, true)] w)
      (fun s => ps.length - s.1) (0, ⟨base, 0, 0, 0⟩) (by (repeat (first | exact agree_nil | (apply agree_cons; exact rfl)))) ⟨Nat.zero_le _, rfl, ⟨hbase, inW0, u640, in640⟩, hs⟩ fun s env w ⟨hi, ho, hin, hs⟩ => ?_
    obtain ⟨i, m⟩ := s
    simp only at hi ho hin
    repeat' (first|refine vs (k:=?_)|refine qRg ?_|refine Nx.h ?_|(refine xc_if rfl (fun hc=>?_) (fun hc=>?_))|fail)
    · have hlt : i < ps.length := by omega
      obtain ⟨b, off, cs, fz, rfl, _, hb, hcs⟩ := hD (fun h => by have := congrArg List.length h; rw [List.length_map, List.length_nil] at this; omega)
      have hpk := hcs i (Pt.cells ps[i]) (by rw [List.getElem?_map, List.getElem?_eq_getElem hlt]; rfl)
      have hpin := hps ps[i] (List.getElem_mem hlt)
      have ei := nx64 hlt hlen
      have hsn : ofM base (ps.take (i + 1)) = addM m ps[i] := by rw [take_next hlt]; unfold ofM at ho ⊢; rw [ofL_snoc, ho]; rfl
      have hno : addM m ps[i] = none → ofM base ps = none := fun h => by
        have := ofL_none (ps.take (i + 1)) (ps.drop (i + 1)) ⟨base, 0, 0, 0⟩ (by rw [show ofL ⟨base, 0, 0, 0⟩ (ps.take (i + 1)) = ofM base (ps.take (i + 1)) from rfl, hsn, h])
        rwa [List.take_append_drop] at this
      generalize ps[i] = p at *
      refine ix (h0 := (by omega)) (h1 := (by omega)) (k := ?_)
      refine lhK ((hs.only0 rfl).block hb (by simp)) hpk (k := ?_)
      refine al hs (k := ?_); intro b8 w hz hs
      repeat' (first|refine vs (k:=?_)|(refine stA hs (k:=?_);intro w hs)|refine qRg ?_|refine Nx.h ?_|fail)
      (with_reducible apply xs_call); exact rfl; exact rfl; exact madd_ret m p hin hpin _
      cases ha : addM m p with
      | none =>
        rintro v w' ⟨rfl, ho⟩; replace hs := hs.call0 ho; repeat' (first|refine vs (k:=?_)|(refine stA hs (k:=?_);intro w hs)|(refine al hs (k:=?_);intro b w hz hs)|refine qRg ?_|refine Nx.h ?_|refine qCt ?_|fail)
        first | refine rt (hq := ?_) | refine rt' (hq := ?_)
        refine ⟨?_, hs.only0 rfl⟩
        rw [hno ha]; rfl
      | some m' =>
        rintro v w' ⟨rfl, ho⟩; replace hs := hs.call0 ho; repeat' (first|refine vs (k:=?_)|(refine stA hs (k:=?_);intro w hs)|(refine al hs (k:=?_);intro b w hz hs)|refine qRg ?_|refine Nx.h ?_|refine qCf ?_|fail)
        rw [ha] at hsn
        exact loopS_next (i + 1, m') (by show ps.length - (i + 1) < ps.length - i; omega) (by (repeat (first | exact agree_nil | (apply agree_cons; first | exact rfl | exact congrArg (Value.int .i64) ei)))) ⟨by show i + 1 ≤ ps.length; omega, hsn, addM_in hin ha, hs.forgetNew.forgetNew⟩
    · have hc' : ¬ ((i : Int) < ps.length) := hc
      have e : i = ps.length := by omega
      rw [e, List.take_length] at ho
      exact cutB_exit m (by (repeat (first | exact agree_nil | (apply agree_cons; exact rfl)))) ⟨ho, hs⟩
  · rintro m env w ⟨ho, hs⟩
    repeat' (first|refine vs (k:=?_)|(refine stA hs (k:=?_);intro w hs)|refine qRg ?_|refine Nx.h ?_|fail)
    first | refine rt (hq := ?_) | refine rt' (hq := ?_)
    refine ⟨?_, hs.only0 rfl⟩
    rw [ho]; rfl
end Go.Proofs.YtilajmcellffiaaGreatDoorX

namespace Go.Proofs.YtilajmcellffiaaGreatDoorX
open Go Go.RowKit
attribute [local irreducible] XS XC XA thenE blockE retE loopE loopS cutB cutN doneE SE
def wdV (o : Option Int) : Value := .tuple #[wv (o.getD 0), .bool o.isSome]
def ovL (m : Mn) (p : Pt) : Int := m.a * p.w - dist p m.b * m.w
def ovM (m : Mn) (p : Pt) : Option Int := if m.right = true ∧ m.n ≠ 0 ∧ p.right = true ∧ InW (m.a * p.w) ∧ InW (ovL m p) then some (ovL m p) else none
theorem ovM_in {m : Mn} {p : Pt} : InW ((ovM m p).getD 0) := by
  unfold ovM; split
  · rename_i h; exact h.2.2.2.2
  · decide
theorem i64_of {x : Int} (h : In64 x) : IntKind.i64.wrap x = x := by rw [wrap_i64]; unfold In64 at h; omega
theorem had_rng {m : Mn} {p : Pt} (hp : p.In) (h5 : m.right = true) (h6 : p.right = true) : InW (dist p m.b * m.w) ∧ -(9671406556917033397649408 + 1048576) ≤ dist p m.b ∧ dist p m.b ≤ 9671406556917033397649408 + 1048576 := by
  have h5 := mright_iff.1 h5
  have h6 := pright_iff.1 h6
  have h7 := sn_rng p.t m.b
  have h8 := mul_rng (w := p.w) (s := sn p.t m.b) (W := 1048576) (S := 9223372036854775808) (by omega) (by omega) (by omega) (by omega)
  have hr := hp.2.1.1
  have h9 : -(9671406556917033397649408 + 1048576) ≤ dist p m.b ∧ dist p m.b ≤ 9671406556917033397649408 + 1048576 := by unfold dist; omega
  have h10 := mul_rng (w := m.w) (s := dist p m.b) (W := 33554432) (S := 9671406556917033397649408 + 1048576) (by omega) (by omega) h9.1 h9.2
  have e := Int.mul_comm (dist p m.b) m.w
  exact ⟨by unfold InW; rw [e]; omega, h9⟩
set_option maxHeartbeats 4000000 in
theorem over_ret (m : Mn) (p : Pt) (hm : m.In) (hp' : p.In) (w0 : World) : Ret Tryz.prog 119 #[mv m, pv p] w0 fun v w' => v = wdV (ovM m p) ∧ Only [] w0 w' := by
  have hs := St.nil w0
  refine ret_of_xc Tryz.func119 (by kernel_rfl) rfl Tryz.ntmps119 rfl rfl rfl ?_
  repeat' (first|refine vs (k:=?_)|(refine al hs (k:=?_);intro b w hz hs)|(refine bx hs (k:=?_);intro b w hz hs)|refine qRg ?_|refine Nx.h ?_|fail)
  (with_reducible apply xs_call); exact rfl; exact rfl; exact mright_ret m _
  rintro v w' ⟨rfl, ho⟩; replace hs := hs.call0 ho; repeat' (first|refine vs (k:=?_)|refine ps (k:=?_)|(refine stA hs (k:=?_);intro w hs)|refine qRg ?_|refine Nx.h ?_|refine qCt ?_|((with_reducible apply xs_guard);exact rfl;exact rfl;intro c hc;(fail_if_success have:true=c:=hc);(fail_if_success have:false=c:=hc);cases c)|fail)
  · (with_reducible apply xs_call); exact rfl; exact rfl; exact pright_ret p _
    rintro v w' ⟨rfl, ho⟩; replace hs := hs.call0 ho; repeat' (first|refine vs (k:=?_)|(refine stA hs (k:=?_);intro w hs)|refine qRg ?_|refine Nx.h ?_|(refine xc_cond rfl (fun hc=>?_) (fun hc=>?_))|fail)
    · first | refine rt (hq := ?_) | refine rt' (hq := ?_)
      refine ⟨?_, hs.only0 rfl⟩
      have : ovM m p = none := by unfold ovM; rw [if_neg (fun h => absurd h.2.2.1 (by simpa using hc))]
      rw [this]; rfl
    · have h1 : m.right = true := by simpa using ‹(!m.right) = false›
      have h2 : p.right = true := by simpa using hc
      have h3 : m.n ≠ 0 := by simpa using ‹(m.n == 0) = false›
      have h5 := mright_iff.1 h1
      have h6 := pright_iff.1 h2
      have h7 := had_rng (m := m) hp' h1 h2
      have e1 : IntKind.i64.wrap p.w = p.w := i64_of ⟨by omega, by omega⟩
      have e2 : IntKind.i64.wrap m.w = m.w := i64_of ⟨by omega, by omega⟩
      (with_reducible apply xs_call); exact rfl; exact rfl; exact mul_t m.a (IntKind.i64.wrap p.w) hm.2.1 (by rw [e1]; exact ⟨by omega, by omega⟩) _
      rw [e1]
      rintro v w' ⟨rfl, ho⟩; replace hs := hs.call0 ho; repeat' (first|refine vs (k:=?_)|(refine stA hs (k:=?_);intro w hs)|(refine al hs (k:=?_);intro b w hz hs)|refine Nx.h ?_|fail)
      refine dr [] hs (k := ?_); intro hX w hs
      refine tk 0 hX (k := ?_)
      refine tk 1 hX (k := ?_)
      refine tk 2 hX (k := ?_)
      refine tk 4 hX (k := ?_)
      refine tk 5 hX (k := ?_)
      refine tk 6 hX (k := ?_)
      refine pd0 11 8 hs (k := ?_); intro f X w hp; have hs := hp.st
      apply xa_pend 3 11 (f := f) (X := X) hX hp; exact rfl; exact rfl; (first | (apply makes_alloc tabOk; exact rfl) | (apply makes_slice tabOk; exact rfl; exact rfl; exact rfl; exact rfl; exact rfl; (intro X; ((repeat (first | exact Bld.nil | (apply Bld.one; exact rfl; (conv => lhs; whnf); exact rfl; (repeat (first | exact PutL.nil | apply PutL.skip | apply PutL.cons))) | (apply Bld.agg; exact rfl; exact rfl; exact rfl; (repeat (first | exact PutL.nil | apply PutL.skip | apply PutL.cons))))))))); kernel_rfl; kernel_rfl; kernel_rfl; kernel_rfl; (intro X Y; (repeat (first | exact pgg_base | refine pgg_step ?_ (by exact rfl)))); (intro w' hs; ((first | exact se_hold hs.hold | exact se_hold (hold_sim hs.hold rfl) | exact se_hold (hold_sim hs.hold.tail rfl) | exact se_hold (hR hs rfl) | exact se_hold hs.hold.tail | exact se_hold hs.hold.tail.tail | exact se_hold hs.hold.tail.tail.tail | exact se_done rfl))); intro f X w hp; have hs := hp.st
      (with_reducible apply xs_call); exact rfl; exact rfl; exact dist_ret p m.b hp' _
      rintro v w' ⟨rfl, ho⟩; replace hp := hp.only ho; replace hs := hp.st; repeat' (first|refine Nx.h ?_|fail)
      refine dn (k := ?_)
      apply xa_pend 7 11 (f := f) (X := X) hX hp; exact rfl; exact rfl; (first | (apply makes_alloc tabOk; exact rfl) | (apply makes_slice tabOk; exact rfl; exact rfl; exact rfl; exact rfl; exact rfl; (intro X; ((repeat (first | exact Bld.nil | (apply Bld.one; exact rfl; (conv => lhs; whnf); exact rfl; (repeat (first | exact PutL.nil | apply PutL.skip | apply PutL.cons))) | (apply Bld.agg; exact rfl; exact rfl; exact rfl; (repeat (first | exact PutL.nil | apply PutL.skip | apply PutL.cons))))))))); kernel_rfl; kernel_rfl; kernel_rfl; kernel_rfl; (intro X Y; (repeat (first | exact pgg_base | refine pgg_step ?_ (by exact rfl)))); (intro w' hs; ((first | exact se_hold hs.hold | exact se_hold (hold_sim hs.hold rfl) | exact se_hold (hold_sim hs.hold.tail rfl) | exact se_hold (hR hs rfl) | exact se_hold hs.hold.tail | exact se_hold hs.hold.tail.tail | exact se_hold hs.hold.tail.tail.tail | exact se_done rfl))); intro f X w hp; have hs := hp.st
      (with_reducible apply xs_call); exact rfl; exact rfl; exact mul_ok (dist p m.b) (IntKind.i64.wrap m.w) (dist_in hp' _) (by rw [e2]; omega) (by rw [e2]; omega) (by rw [e2]; exact h7.1) _
      rw [e2]
      rintro v w' ⟨rfl, ho⟩; replace hp := hp.only ho; replace hs := hp.st; repeat' (first|refine Nx.h ?_|fail)
      refine dn (k := ?_)
      refine tk 8 hX (hc := by cases f <;> kernel_rfl) (k := ?_)
      refine tk 9 hX (hc := by cases f <;> kernel_rfl) (k := ?_)
      refine tk 10 hX (hc := by cases f <;> kernel_rfl) (k := ?_)
      apply xa_pendE 11 (f := f) (X := X) hX hp; exact rfl; (first | (apply makes_alloc tabOk; exact rfl) | (apply makes_slice tabOk; exact rfl; exact rfl; exact rfl; exact rfl; exact rfl; (intro X; ((repeat (first | exact Bld.nil | (apply Bld.one; exact rfl; (conv => lhs; whnf); exact rfl; (repeat (first | exact PutL.nil | apply PutL.skip | apply PutL.cons))) | (apply Bld.agg; exact rfl; exact rfl; exact rfl; (repeat (first | exact PutL.nil | apply PutL.skip | apply PutL.cons))))))))); kernel_rfl; kernel_rfl; (intro X Y; (repeat (first | exact pgg_base | refine pgg_step ?_ (by exact rfl)))); (intro w' hs; ((first | exact se_hold hs.hold | exact se_hold (hold_sim hs.hold rfl) | exact se_hold (hold_sim hs.hold.tail rfl) | exact se_hold (hR hs rfl) | exact se_hold hs.hold.tail | exact se_hold hs.hold.tail.tail | exact se_hold hs.hold.tail.tail.tail | exact se_done rfl))); intro b w hI hs
      refine dt 12 hX (k := ?_)
      repeat' (first|(refine stA hs (k:=?_);intro w hs)|refine Nx.h ?_|fail)
      refine dn (k := ?_)
      refine tk 13 hX (k := ?_)
      refine en (k := ?_)
      repeat' (first|refine vs (k:=?_)|refine qRg ?_|refine Nx.h ?_|fail)
      (with_reducible apply xs_call); exact rfl; exact rfl; exact sub_t (tot (m.a * p.w)) (dist p m.b * m.w) (tot_in _) h7.1 _
      rintro v w' ⟨rfl, ho⟩; replace hs := hs.call0 ho; repeat' (first|refine vs (k:=?_)|refine ps (k:=?_)|(refine stA hs (k:=?_);intro w hs)|(refine al hs (k:=?_);intro b w hz hs)|refine qRg ?_|refine Nx.h ?_|refine qCt ?_|((with_reducible apply xs_guard);exact rfl;exact rfl;intro c hc;(fail_if_success have:true=c:=hc);(fail_if_success have:false=c:=hc);cases c)|(refine xc_cond rfl (fun hc=>?_) (fun hc=>?_))|fail)
      · have h8 : InW (m.a * p.w) := by simpa using ‹(!decide (InW (m.a * p.w))) = false›
        have e3 : tot (m.a * p.w) = m.a * p.w := if_pos h8
        first | refine rt (hq := ?_) | refine rt' (hq := ?_)
        refine ⟨?_, hs.only0 rfl⟩
        rw [e3] at hc
        have h9 : ¬ InW (ovL m p) := by unfold ovL; simpa using hc
        have : ovM m p = none := by unfold ovM; rw [if_neg (fun h => h9 h.2.2.2.2)]
        rw [this]; rfl
      · have h8 : InW (m.a * p.w) := by simpa using ‹(!decide (InW (m.a * p.w))) = false›
        have e3 : tot (m.a * p.w) = m.a * p.w := if_pos h8
        first | refine rt (hq := ?_) | refine rt' (hq := ?_)
        refine ⟨?_, hs.only0 rfl⟩
        rw [e3] at hc
        have h9 : InW (ovL m p) := by unfold ovL; simpa using hc
        have : ovM m p = some (ovL m p) := by unfold ovM; rw [if_pos ⟨h1, h3, h2, h8, h9⟩]
        have e4 : tot (m.a * p.w - dist p m.b * m.w) = ovL m p := if_pos h9
        rw [this, e3, e4]; rfl
      · first | refine rt (hq := ?_) | refine rt' (hq := ?_)
        refine ⟨?_, hs.only0 rfl⟩
        have h8 : ¬ InW (m.a * p.w) := by simpa using hc
        have : ovM m p = none := by unfold ovM; rw [if_neg (fun h => h8 h.2.2.2.1)]
        rw [this]; rfl
  · first | refine rt (hq := ?_) | refine rt' (hq := ?_)
    refine ⟨?_, hs.only0 rfl⟩
    have : ovM m p = none := by unfold ovM; rw [if_neg (fun h => h.2.1 (by simpa using hc))]
    rw [this]; rfl
  · first | refine rt (hq := ?_) | refine rt' (hq := ?_)
    refine ⟨?_, hs.only0 rfl⟩
    have : ovM m p = none := by unfold ovM; rw [if_neg (fun h => absurd h.1 (by simpa using hc))]
    rw [this]; rfl
theorem lsign_ret (m : Mn) (p : Pt) (hm : m.In) (hp' : p.In) (w0 : World) : Ret Tryz.prog 121 #[mv m, pv p] w0 fun v w' => v = .tuple #[.int .i64 (cmpI ((ovM m p).getD 0) 0), .bool (ovM m p).isSome] ∧ Only [] w0 w' := by
  have hs := St.nil w0
  refine ret_of_xc Tryz.func121 (by kernel_rfl) rfl Tryz.ntmps121 rfl rfl rfl ?_
  repeat' (first|refine vs (k:=?_)|(refine bx hs (k:=?_);intro b w hz hs)|refine qRg ?_|refine Nx.h ?_|fail)
  (with_reducible apply xs_call); exact rfl; exact rfl; exact over_ret m p hm hp' _
  rintro v w' ⟨rfl, ho⟩; replace hs := hs.call0 ho; repeat' (first|refine vs (k:=?_)|(refine stA hs (k:=?_);intro w hs)|(refine al hs (k:=?_);intro b w hz hs)|refine qRg ?_|refine Nx.h ?_|fail)
  (with_reducible apply xs_call); exact rfl; exact rfl; exact sign_ret ((ovM m p).getD 0) ovM_in _
  rintro v w' ⟨rfl, ho⟩; replace hs := hs.call0 ho; repeat' (first|refine vs (k:=?_)|refine Nx.h ?_|fail)
  first | refine rt (hq := ?_) | refine rt' (hq := ?_)
  exact ⟨rfl, hs.only0 rfl⟩
def elig (m : Mn) (p : Pt) : Bool := (ovM m p).isSome && decide (0 ≤ (ovM m p).getD 0)
theorem elig_ret (m : Mn) (p : Pt) (hm : m.In) (hp' : p.In) (w0 : World) : Ret Tryz.prog 77 #[mv m, pv p] w0 fun v w' => v = .bool (elig m p) ∧ Only [] w0 w' := by
  have hs := St.nil w0
  refine ret_of_xc Tryz.func77 (by kernel_rfl) rfl Tryz.ntmps77 rfl rfl rfl ?_
  repeat' (first|refine vs (k:=?_)|(refine bx hs (k:=?_);intro b w hz hs)|refine qRg ?_|refine Nx.h ?_|fail)
  (with_reducible apply xs_call); exact rfl; exact rfl; exact lsign_ret m p hm hp' _
  rintro v w' ⟨rfl, ho⟩; replace hs := hs.call0 ho; repeat' (first|refine vs (k:=?_)|refine ps (k:=?_)|refine qRg ?_|refine Nx.h ?_|((with_reducible apply xs_guard);exact rfl;exact rfl;intro c hc;(fail_if_success have:true=c:=hc);(fail_if_success have:false=c:=hc);cases c)|fail)
  · first | refine rt (hq := ?_) | refine rt' (hq := ?_)
    refine ⟨?_, hs.only0 rfl⟩
    unfold elig; rw [hc]; rfl
  · first | refine rt (hq := ?_) | refine rt' (hq := ?_)
    refine ⟨?_, hs.only0 rfl⟩
    unfold elig; rw [hc]
    show Value.bool _ = Value.bool _
    congr 1
    rw [Bool.true_and]
    refine decide_eq_decide.2 ?_
    unfold cmpI; split
    · omega
    · split <;> omega
def rdM (m : Mn) (p : Pt) : Option Int := (ovM m p).map fun x => x / m.w
theorem read_ret (m : Mn) (p : Pt) (hm : m.In) (hp' : p.In) (w0 : World) : Ret Tryz.prog 74 #[mv m, pv p] w0 fun v w' => v = wdV (rdM m p) ∧ Only [] w0 w' := by
  have hs := St.nil w0
  refine ret_of_xc Tryz.func74 (by kernel_rfl) rfl Tryz.ntmps74 rfl rfl rfl ?_
  repeat' (first|refine vs (k:=?_)|(refine al hs (k:=?_);intro b w hz hs)|(refine bx hs (k:=?_);intro b w hz hs)|refine qRg ?_|refine Nx.h ?_|fail)
  (with_reducible apply xs_call); exact rfl; exact rfl; exact over_ret m p hm hp' _
  have hin := ovM_in (m := m) (p := p)
  have hU := hm.2.2.1
  unfold rdM
  cases ho : ovM m p with
  | none =>
    rintro v w' ⟨rfl, ho⟩; replace hs := hs.call0 ho; repeat' (first|refine vs (k:=?_)|(refine stA hs (k:=?_);intro w hs)|(refine al hs (k:=?_);intro b w hz hs)|refine qRg ?_|refine Nx.h ?_|refine qCt ?_|fail)
    first | refine rt (hq := ?_) | refine rt' (hq := ?_)
    exact ⟨rfl, hs.only0 rfl⟩
  | some x =>
    rw [ho] at hin
    have hw : 0 < m.w := by
      unfold ovM at ho; split at ho
      · rename_i h; have := mright_iff.1 h.1; omega
      · cases ho
    rintro v w' ⟨rfl, ho⟩; replace hs := hs.call0 ho; repeat' (first|refine vs (k:=?_)|(refine stA hs (k:=?_);intro w hs)|(refine al hs (k:=?_);intro b w hz hs)|refine qRg ?_|refine Nx.h ?_|refine qCf ?_|fail)
    (with_reducible apply xs_call); exact rfl; exact rfl; exact div_ok x m.w hin hw hU.2 _
    rintro v w' ⟨rfl, ho⟩; replace hs := hs.call0 ho; repeat' (first|refine vs (k:=?_)|(refine stA hs (k:=?_);intro w hs)|(refine al hs (k:=?_);intro b w hz hs)|refine qRg ?_|refine Nx.h ?_|fail)
    first | refine rt (hq := ?_) | refine rt' (hq := ?_)
    exact ⟨rfl, hs.only0 rfl⟩
end Go.Proofs.YtilajmcellffiaaGreatDoorX

namespace Go.Proofs.YtilajmcellffiaaGreatDoorX
open Go Go.RowKit
attribute [local irreducible] XS XC XA thenE blockE retE loopE loopS cutB cutN doneE SE
def plD (m : Mn) (q lag : Int) : Int := m.a * q - lag * (m.w + q)
def plM (m : Mn) (clock q lag : Int) : Option Pt :=
  if m.right = true ∧ mayW q = true then (if m.n = 0 then some ⟨clock, 0, q⟩ else if InW (m.a * q) ∧ InW (plD m q lag) then atP m.b (plD m q lag / m.w) q else none) else none
theorem mayW_no {q : Int} (h : q < 1 ∨ 1048576 < q) : ¬ mayW q = true := fun h' => by have := mayW_iff.1 h'; omega
set_option maxHeartbeats 4000000 in
theorem place_ret (m : Mn) (clock q lag : Int) (hm : m.In) (hq : U32 q) (hl : In64 lag) (w0 : World) : Ret Tryz.prog 207 #[mv m, .int .u64 clock, .int .u32 q, .int .i64 lag] w0 fun v w' => v = ptV (plM m clock q lag) ∧ Only [] w0 w' := by
  have hs := St.nil w0
  refine ret_of_xc Tryz.func207 (by kernel_rfl) rfl Tryz.ntmps207 rfl rfl rfl ?_
  repeat' (first|refine vs (k:=?_)|(refine al hs (k:=?_);intro b w hz hs)|(refine bx hs (k:=?_);intro b w hz hs)|refine qRg ?_|refine Nx.h ?_|fail)
  (with_reducible apply xs_call); exact rfl; exact rfl; exact mright_ret m _
  rintro v w' ⟨rfl, ho⟩; replace hs := hs.call0 ho; repeat' (first|refine vs (k:=?_)|refine ps (k:=?_)|(refine stA hs (k:=?_);intro w hs)|refine qRg ?_|refine Nx.h ?_|refine qCt ?_|((with_reducible apply xs_guard);exact rfl;exact rfl;intro c hc;(fail_if_success have:true=c:=hc);(fail_if_success have:false=c:=hc);cases c)|(refine xc_if rfl (fun hc=>?_) (fun hc=>?_))|fail)
  · first | refine rt (hq := ?_) | refine rt' (hq := ?_)
    refine ⟨?_, hs.only0 rfl⟩
    have : plM m clock q lag = none := by unfold plM; rw [if_neg (fun h => mayW_no (.inr (by omega)) h.2)]
    rw [this]; rfl
  · first | refine rt (hq := ?_) | refine rt' (hq := ?_)
    refine ⟨?_, hs.only0 rfl⟩
    have h1 : m.right = true := by simpa using ‹(!m.right) = false›
    have h2 := of_decide_eq_false ‹decide (q < 1) = false›
    have : plM m clock q lag = some ⟨clock, 0, q⟩ := by unfold plM; rw [if_pos ⟨h1, mayW_iff.2 (by omega)⟩, if_pos (by assumption)]
    rw [this]; rfl
  · have h1 : m.right = true := by simpa using ‹(!m.right) = false›
    have h2 := of_decide_eq_false ‹decide (q < 1) = false›
    have h3 : ¬ m.n = 0 := by assumption
    have h4 : mayW q = true := mayW_iff.2 (by omega)
    have h5 := mright_iff.1 h1
    have h6 := mayW_iff.1 h4
    obtain ⟨hl0, hl1⟩ := hl
    have e1 : IntKind.i64.wrap q = q := i64_of ⟨by omega, by omega⟩
    have e2 : IntKind.i64.wrap (IntKind.i64.wrap m.w + IntKind.i64.wrap q) = m.w + q := by rw [e1, i64_of (x := m.w) ⟨by omega, by omega⟩, i64_of ⟨by omega, by omega⟩]
    have h7 := mul_rng (w := m.w + q) (s := lag) (W := 34603008) (S := 9223372036854775808) (by omega) (by omega) (by omega) (by omega)
    have e3 := Int.mul_comm lag (m.w + q)
    have h8 : InW (lag * (m.w + q)) := by unfold InW; rw [e3]; omega
    have hev : plM m clock q lag = if InW (m.a * q) ∧ InW (plD m q lag) then atP m.b (plD m q lag / m.w) q else none := by unfold plM; rw [if_pos ⟨h1, h4⟩, if_neg h3]
    (with_reducible apply xs_call); exact rfl; exact rfl; exact mul_t m.a (IntKind.i64.wrap q) hm.2.1 (by rw [e1]; exact ⟨by omega, by omega⟩) _
    rw [e1]
    rintro v w' ⟨rfl, ho⟩; replace hs := hs.call0 ho; repeat' (first|refine vs (k:=?_)|(refine stA hs (k:=?_);intro w hs)|(refine al hs (k:=?_);intro b w hz hs)|refine Nx.h ?_|fail)
    refine dr [] hs (k := ?_); intro hX w hs
    refine tk 0 hX (k := ?_)
    refine tk 2 hX (k := ?_)
    refine tk 3 hX (k := ?_)
    refine tk 4 hX (k := ?_)
    refine tk 5 hX (k := ?_)
    refine tk 6 hX (k := ?_)
    refine tk 7 hX (k := ?_)
    refine xa_set 53 (congrArg (Value.int .i64) e2) ?_
    refine pd0 12 12 hs (k := ?_); intro f X w hp; have hs := hp.st
    apply xa_pend 1 12 (f := f) (X := X) hX hp; exact rfl; exact rfl; (first | (apply makes_alloc tabOk; exact rfl) | (apply makes_slice tabOk; exact rfl; exact rfl; exact rfl; exact rfl; exact rfl; (intro X; ((repeat (first | exact Bld.nil | (apply Bld.one; exact rfl; (conv => lhs; whnf); exact rfl; (repeat (first | exact PutL.nil | apply PutL.skip | apply PutL.cons))) | (apply Bld.agg; exact rfl; exact rfl; exact rfl; (repeat (first | exact PutL.nil | apply PutL.skip | apply PutL.cons))))))))); kernel_rfl; kernel_rfl; kernel_rfl; kernel_rfl; (intro X Y; (repeat (first | exact pgg_base | refine pgg_step ?_ (by exact rfl)))); (intro w' hs; ((first | exact se_hold hs.hold | exact se_hold (hold_sim hs.hold rfl) | exact se_hold (hold_sim hs.hold.tail rfl) | exact se_hold (hR hs rfl) | exact se_hold hs.hold.tail | exact se_hold hs.hold.tail.tail | exact se_hold hs.hold.tail.tail.tail | exact se_done rfl))); intro f X w hp; have hs := hp.st
    (with_reducible apply xs_call); exact rfl; exact rfl; exact of_ret lag hl0 hl1 _
    rintro v w' ⟨rfl, ho⟩; replace hp := hp.only ho; replace hs := hp.st; repeat' (first|refine Nx.h ?_|fail)
    refine dn (k := ?_)
    apply xa_pend 8 12 (f := f) (X := X) hX hp; exact rfl; exact rfl; (first | (apply makes_alloc tabOk; exact rfl) | (apply makes_slice tabOk; exact rfl; exact rfl; exact rfl; exact rfl; exact rfl; (intro X; ((repeat (first | exact Bld.nil | (apply Bld.one; exact rfl; (conv => lhs; whnf); exact rfl; (repeat (first | exact PutL.nil | apply PutL.skip | apply PutL.cons))) | (apply Bld.agg; exact rfl; exact rfl; exact rfl; (repeat (first | exact PutL.nil | apply PutL.skip | apply PutL.cons))))))))); kernel_rfl; kernel_rfl; kernel_rfl; kernel_rfl; (intro X Y; (repeat (first | exact pgg_base | refine pgg_step ?_ (by exact rfl)))); (intro w' hs; ((first | exact se_hold hs.hold | exact se_hold (hold_sim hs.hold rfl) | exact se_hold (hold_sim hs.hold.tail rfl) | exact se_hold (hR hs rfl) | exact se_hold hs.hold.tail | exact se_hold hs.hold.tail.tail | exact se_hold hs.hold.tail.tail.tail | exact se_done rfl))); intro f X w hp; have hs := hp.st
    (with_reducible apply xs_call); exact rfl; exact rfl; exact mul_ok lag (m.w + q) (by unfold InW; omega) (by omega) (by omega) h8 _
    rintro v w' ⟨rfl, ho⟩; replace hp := hp.only ho; replace hs := hp.st; repeat' (first|refine Nx.h ?_|fail)
    refine dn (k := ?_)
    refine tk 9 hX (hc := by cases f <;> kernel_rfl) (k := ?_)
    refine tk 10 hX (hc := by cases f <;> kernel_rfl) (k := ?_)
    refine tk 11 hX (hc := by cases f <;> kernel_rfl) (k := ?_)
    apply xa_pendE 12 (f := f) (X := X) hX hp; exact rfl; (first | (apply makes_alloc tabOk; exact rfl) | (apply makes_slice tabOk; exact rfl; exact rfl; exact rfl; exact rfl; exact rfl; (intro X; ((repeat (first | exact Bld.nil | (apply Bld.one; exact rfl; (conv => lhs; whnf); exact rfl; (repeat (first | exact PutL.nil | apply PutL.skip | apply PutL.cons))) | (apply Bld.agg; exact rfl; exact rfl; exact rfl; (repeat (first | exact PutL.nil | apply PutL.skip | apply PutL.cons))))))))); kernel_rfl; kernel_rfl; (intro X Y; (repeat (first | exact pgg_base | refine pgg_step ?_ (by exact rfl)))); (intro w' hs; ((first | exact se_hold hs.hold | exact se_hold (hold_sim hs.hold rfl) | exact se_hold (hold_sim hs.hold.tail rfl) | exact se_hold (hR hs rfl) | exact se_hold hs.hold.tail | exact se_hold hs.hold.tail.tail | exact se_hold hs.hold.tail.tail.tail | exact se_done rfl))); intro b w hI hs
    refine dt 13 hX (k := ?_)
    repeat' (first|(refine stA hs (k:=?_);intro w hs)|refine Nx.h ?_|fail)
    refine dn (k := ?_)
    refine tk 14 hX (k := ?_)
    refine en (k := ?_)
    repeat' (first|refine vs (k:=?_)|refine qRg ?_|refine Nx.h ?_|fail)
    (with_reducible apply xs_call); exact rfl; exact rfl; exact sub_t (tot (m.a * q)) (lag * (m.w + q)) (tot_in _) h8 _
    rintro v w' ⟨rfl, ho⟩; replace hs := hs.call0 ho; repeat' (first|refine vs (k:=?_)|refine ps (k:=?_)|(refine stA hs (k:=?_);intro w hs)|(refine al hs (k:=?_);intro b w hz hs)|refine qRg ?_|refine Nx.h ?_|refine qCt ?_|((with_reducible apply xs_guard);exact rfl;exact rfl;intro c hc;(fail_if_success have:true=c:=hc);(fail_if_success have:false=c:=hc);cases c)|(refine xc_cond rfl (fun hc=>?_) (fun hc=>?_))|fail)
    · have h9 : InW (m.a * q) := by simpa using ‹(!decide (InW (m.a * q))) = false›
      have e4 : tot (m.a * q) = m.a * q := if_pos h9
      first | refine rt (hq := ?_) | refine rt' (hq := ?_)
      refine ⟨?_, hs.only0 rfl⟩
      rw [e4] at hc
      have h10 : ¬ InW (plD m q lag) := by unfold plD; simpa using hc
      rw [hev, if_neg (fun h => h10 h.2)]; rfl
    · have h9 : InW (m.a * q) := by simpa using ‹(!decide (InW (m.a * q))) = false›
      have e4 : tot (m.a * q) = m.a * q := if_pos h9
      rw [e4] at hc
      have h10 : InW (plD m q lag) := by unfold plD; simpa using hc
      have e5 : tot (tot (m.a * q) - lag * (m.w + q)) = plD m q lag := by rw [e4]; exact if_pos h10
      (with_reducible apply xs_call); exact rfl; exact rfl; exact div_ok (tot (tot (m.a * q) - lag * (m.w + q))) m.w (tot_in _) (by omega) (by omega) _
      rw [e5]
      rintro v w' ⟨rfl, ho⟩; replace hs := hs.call0 ho; repeat' (first|refine vs (k:=?_)|(refine stA hs (k:=?_);intro w hs)|(refine al hs (k:=?_);intro b w hz hs)|refine qRg ?_|refine Nx.h ?_|fail)
      (with_reducible apply xs_call); exact rfl; exact rfl; exact at_ret m.b (plD m q lag / m.w) q (div_in h10 (by omega)) _
      rintro v w' ⟨rfl, ho⟩; replace hs := hs.call0 ho; repeat' (first|refine vs (k:=?_)|(refine stA hs (k:=?_);intro w hs)|refine Nx.h ?_|fail)
      first | refine rt (hq := ?_) | refine rt' (hq := ?_)
      refine ⟨?_, hs.only0 rfl⟩
      rw [hev, if_pos ⟨h9, h10⟩]; rfl
    · first | refine rt (hq := ?_) | refine rt' (hq := ?_)
      refine ⟨?_, hs.only0 rfl⟩
      have h9 : ¬ InW (m.a * q) := by simpa using hc
      rw [hev, if_neg (fun h => h9 h.1)]; rfl
  · first | refine rt (hq := ?_) | refine rt' (hq := ?_)
    refine ⟨?_, hs.only0 rfl⟩
    have : plM m clock q lag = none := by unfold plM; rw [if_neg (fun h => mayW_no (.inl (by simpa using hc)) h.2)]
    rw [this]; rfl
  · first | refine rt (hq := ?_) | refine rt' (hq := ?_)
    refine ⟨?_, hs.only0 rfl⟩
    have : plM m clock q lag = none := by unfold plM; rw [if_neg (fun h => absurd h.1 (by simpa using hc))]
    rw [this]; rfl
def weB (m : Mn) (p : Pt) (q : Int) : Int := m.a * (q - p.w)
def weD (m : Mn) (p : Pt) (q : Int) : Int := dist p m.b + weB m p q / m.w
def weM (m : Mn) (p : Pt) (q : Int) : Option Pt :=
  if m.right = true ∧ m.n ≠ 0 ∧ p.right = true ∧ mayW q = true ∧ InW (weB m p q) ∧ InW (weD m p q) then atP m.b (weD m p q) q else none
set_option maxHeartbeats 4000000 in
theorem weigh_ret (m : Mn) (p : Pt) (q : Int) (hm : m.In) (hp' : p.In) (hq : U32 q) (w0 : World) : Ret Tryz.prog 250 #[mv m, pv p, .int .u32 q] w0 fun v w' => v = ptV (weM m p q) ∧ Only [] w0 w' := by
  have hs := St.nil w0
  refine ret_of_xc Tryz.func250 (by kernel_rfl) rfl Tryz.ntmps250 rfl rfl rfl ?_
  repeat' (first|refine vs (k:=?_)|(refine al hs (k:=?_);intro b w hz hs)|(refine bx hs (k:=?_);intro b w hz hs)|refine qRg ?_|refine Nx.h ?_|fail)
  (with_reducible apply xs_call); exact rfl; exact rfl; exact mright_ret m _
  rintro v w' ⟨rfl, ho⟩; replace hs := hs.call0 ho; repeat' (first|refine vs (k:=?_)|refine ps (k:=?_)|(refine stA hs (k:=?_);intro w hs)|refine qRg ?_|refine Nx.h ?_|refine qCt ?_|((with_reducible apply xs_guard);exact rfl;exact rfl;intro c hc;(fail_if_success have:true=c:=hc);(fail_if_success have:false=c:=hc);cases c)|fail)
  · (with_reducible apply xs_call); exact rfl; exact rfl; exact pright_ret p _
    rintro v w' ⟨rfl, ho⟩; replace hs := hs.call0 ho; repeat' (first|refine vs (k:=?_)|refine ps (k:=?_)|(refine stA hs (k:=?_);intro w hs)|refine qRg ?_|refine Nx.h ?_|refine qCt ?_|((with_reducible apply xs_guard);exact rfl;exact rfl;intro c hc;(fail_if_success have:true=c:=hc);(fail_if_success have:false=c:=hc);cases c)|fail)
    · (with_reducible apply xs_call); exact rfl; exact rfl; exact pright_ret ⟨0, 0, q⟩ _
      rintro v w' ⟨rfl, ho⟩; replace hs := hs.call0 ho; repeat' (first|refine vs (k:=?_)|(refine stA hs (k:=?_);intro w hs)|refine qRg ?_|refine Nx.h ?_|(refine xc_cond rfl (fun hc=>?_) (fun hc=>?_))|fail)
      · first | refine rt (hq := ?_) | refine rt' (hq := ?_)
        refine ⟨?_, hs.only0 rfl⟩
        have : weM m p q = none := by
          unfold weM; rw [if_neg (fun h => ?_)]
          have h1 : (⟨0, 0, q⟩ : Pt).right = false := by simpa using hc
          have h2 := mayW_iff.1 h.2.2.2.1
          have h3 : (⟨0, 0, q⟩ : Pt).right = true := pright_iff.2 ⟨h2.1, h2.2, by show (0 : Int) < q; omega⟩
          rw [h1] at h3; cases h3
        rw [this]; rfl
      · have h1 : m.right = true := by simpa using ‹(!m.right) = false›
        have h2 : p.right = true := by simpa using ‹(!p.right) = false›
        have h3 : m.n ≠ 0 := by simpa using ‹(m.n == 0) = false›
        have h4' : (⟨0, 0, q⟩ : Pt).right = true := by simpa using hc
        have h4 : mayW q = true := by have := pright_iff.1 h4'; exact mayW_iff.2 ⟨this.1, this.2.1⟩
        have h5 := mright_iff.1 h1
        have h6 := pright_iff.1 h2
        have h6' := mayW_iff.1 h4
        have e1 : IntKind.i64.wrap (IntKind.i64.wrap q - IntKind.i64.wrap p.w) = q - p.w := by rw [i64_of (x := q) ⟨by omega, by omega⟩, i64_of (x := p.w) ⟨by omega, by omega⟩, i64_of ⟨by omega, by omega⟩]
        (with_reducible apply xs_call); exact rfl; exact rfl; exact mul_t m.a (IntKind.i64.wrap (IntKind.i64.wrap q - IntKind.i64.wrap p.w)) hm.2.1 (by rw [e1]; exact ⟨by omega, by omega⟩) _
        rw [e1]
        rintro v w' ⟨rfl, ho⟩; replace hs := hs.call0 ho; repeat' (first|refine vs (k:=?_)|(refine stA hs (k:=?_);intro w hs)|(refine al hs (k:=?_);intro b w hz hs)|refine qRg ?_|refine Nx.h ?_|(refine xc_cond rfl (fun hc=>?_) (fun hc=>?_))|fail)
        · first | refine rt (hq := ?_) | refine rt' (hq := ?_)
          refine ⟨?_, hs.only0 rfl⟩
          have h8 : ¬ InW (weB m p q) := by unfold weB; simpa using hc
          have : weM m p q = none := by unfold weM; rw [if_neg (fun h => h8 h.2.2.2.2.1)]
          rw [this]; rfl
        · have h8 : InW (weB m p q) := by unfold weB; simpa using hc
          have e2 : tot (m.a * (q - p.w)) = weB m p q := if_pos h8
          (with_reducible apply xs_call); exact rfl; exact rfl; exact div_ok (tot (m.a * (q - p.w))) m.w (tot_in _) (by omega) (by omega) _
          rw [e2]
          rintro v w' ⟨rfl, ho⟩; replace hs := hs.call0 ho; repeat' (first|refine vs (k:=?_)|(refine stA hs (k:=?_);intro w hs)|(refine al hs (k:=?_);intro b w hz hs)|refine Nx.h ?_|fail)
          refine dr [] hs (k := ?_); intro hX w hs
          refine tk 0 hX (k := ?_)
          refine tk 1 hX (k := ?_)
          refine tk 2 hX (k := ?_)
          refine tk 4 hX (k := ?_)
          refine pd0 9 13 hs (k := ?_); intro f X w hp; have hs := hp.st
          apply xa_pend 3 9 (f := f) (X := X) hX hp; exact rfl; exact rfl; (first | (apply makes_alloc tabOk; exact rfl) | (apply makes_slice tabOk; exact rfl; exact rfl; exact rfl; exact rfl; exact rfl; (intro X; ((repeat (first | exact Bld.nil | (apply Bld.one; exact rfl; (conv => lhs; whnf); exact rfl; (repeat (first | exact PutL.nil | apply PutL.skip | apply PutL.cons))) | (apply Bld.agg; exact rfl; exact rfl; exact rfl; (repeat (first | exact PutL.nil | apply PutL.skip | apply PutL.cons))))))))); kernel_rfl; kernel_rfl; kernel_rfl; kernel_rfl; (intro X Y; (repeat (first | exact pgg_base | refine pgg_step ?_ (by exact rfl)))); (intro w' hs; ((first | exact se_hold hs.hold | exact se_hold (hold_sim hs.hold rfl) | exact se_hold (hold_sim hs.hold.tail rfl) | exact se_hold (hR hs rfl) | exact se_hold hs.hold.tail | exact se_hold hs.hold.tail.tail | exact se_hold hs.hold.tail.tail.tail | exact se_done rfl))); intro f X w hp; have hs := hp.st
          (with_reducible apply xs_call); exact rfl; exact rfl; exact dist_ret p m.b hp' _
          rintro v w' ⟨rfl, ho⟩; replace hp := hp.only ho; replace hs := hp.st; repeat' (first|refine Nx.h ?_|fail)
          refine dn (k := ?_)
          apply xa_pend 5 9 (f := f) (X := X) hX hp; exact rfl; exact rfl; (first | (apply makes_alloc tabOk; exact rfl) | (apply makes_slice tabOk; exact rfl; exact rfl; exact rfl; exact rfl; exact rfl; (intro X; ((repeat (first | exact Bld.nil | (apply Bld.one; exact rfl; (conv => lhs; whnf); exact rfl; (repeat (first | exact PutL.nil | apply PutL.skip | apply PutL.cons))) | (apply Bld.agg; exact rfl; exact rfl; exact rfl; (repeat (first | exact PutL.nil | apply PutL.skip | apply PutL.cons))))))))); kernel_rfl; kernel_rfl; kernel_rfl; kernel_rfl; (intro X Y; (repeat (first | exact pgg_base | refine pgg_step ?_ (by exact rfl)))); (intro w' hs; ((first | exact se_hold hs.hold | exact se_hold (hold_sim hs.hold rfl) | exact se_hold (hold_sim hs.hold.tail rfl) | exact se_hold (hR hs rfl) | exact se_hold hs.hold.tail | exact se_hold hs.hold.tail.tail | exact se_hold hs.hold.tail.tail.tail | exact se_done rfl))); intro f X w hp; have hs := hp.st
          (with_reducible apply xs_call); exact rfl; exact rfl; exact add_t (dist p m.b) (weB m p q / m.w) (dist_in hp' _) (div_in h8 (by omega)) _
          rintro v w' ⟨rfl, ho⟩; replace hp := hp.only ho; replace hs := hp.st; repeat' (first|refine Nx.h ?_|fail)
          refine dn (k := ?_)
          refine tk 6 hX (hc := by cases f <;> kernel_rfl) (k := ?_)
          refine tk 7 hX (hc := by cases f <;> kernel_rfl) (k := ?_)
          refine tk 8 hX (hc := by cases f <;> kernel_rfl) (k := ?_)
          apply xa_pendE 9 (f := f) (X := X) hX hp; exact rfl; (first | (apply makes_alloc tabOk; exact rfl) | (apply makes_slice tabOk; exact rfl; exact rfl; exact rfl; exact rfl; exact rfl; (intro X; ((repeat (first | exact Bld.nil | (apply Bld.one; exact rfl; (conv => lhs; whnf); exact rfl; (repeat (first | exact PutL.nil | apply PutL.skip | apply PutL.cons))) | (apply Bld.agg; exact rfl; exact rfl; exact rfl; (repeat (first | exact PutL.nil | apply PutL.skip | apply PutL.cons))))))))); kernel_rfl; kernel_rfl; (intro X Y; (repeat (first | exact pgg_base | refine pgg_step ?_ (by exact rfl)))); (intro w' hs; ((first | exact se_hold hs.hold | exact se_hold (hold_sim hs.hold rfl) | exact se_hold (hold_sim hs.hold.tail rfl) | exact se_hold (hR hs rfl) | exact se_hold hs.hold.tail | exact se_hold hs.hold.tail.tail | exact se_hold hs.hold.tail.tail.tail | exact se_done rfl))); intro b w hI hs
          refine dt 10 hX (k := ?_)
          repeat' (first|(refine stA hs (k:=?_);intro w hs)|refine Nx.h ?_|fail)
          refine dn (k := ?_)
          refine tk 11 hX (k := ?_)
          refine en (k := ?_)
          repeat' (first|refine vs (k:=?_)|(refine stA hs (k:=?_);intro w hs)|refine qRg ?_|refine Nx.h ?_|(refine xc_cond rfl (fun hc=>?_) (fun hc=>?_))|fail)
          · first | refine rt (hq := ?_) | refine rt' (hq := ?_)
            refine ⟨?_, hs.only0 rfl⟩
            have h9 : ¬ InW (weD m p q) := by unfold weD; simpa using hc
            have : weM m p q = none := by unfold weM; rw [if_neg (fun h => h9 h.2.2.2.2.2)]
            rw [this]; rfl
          · have h9 : InW (weD m p q) := by unfold weD; simpa using hc
            have e3 : tot (dist p m.b + weB m p q / m.w) = weD m p q := if_pos h9
            (with_reducible apply xs_call); exact rfl; exact rfl; exact at_ret m.b (tot (dist p m.b + weB m p q / m.w)) q (tot_in _) _
            rw [e3]
            rintro v w' ⟨rfl, ho⟩; replace hs := hs.call0 ho; repeat' (first|refine vs (k:=?_)|(refine stA hs (k:=?_);intro w hs)|refine Nx.h ?_|fail)
            first | refine rt (hq := ?_) | refine rt' (hq := ?_)
            refine ⟨?_, hs.only0 rfl⟩
            have : weM m p q = atP m.b (weD m p q) q := by unfold weM; rw [if_pos ⟨h1, h3, h2, h4, h8, h9⟩]
            rw [this]; rfl
    · first | refine rt (hq := ?_) | refine rt' (hq := ?_)
      refine ⟨?_, hs.only0 rfl⟩
      have : weM m p q = none := by unfold weM; rw [if_neg (fun h => absurd h.2.2.1 (by simpa using hc))]
      rw [this]; rfl
  · first | refine rt (hq := ?_) | refine rt' (hq := ?_)
    refine ⟨?_, hs.only0 rfl⟩
    have : weM m p q = none := by unfold weM; rw [if_neg (fun h => h.2.1 (by simpa using hc))]
    rw [this]; rfl
  · first | refine rt (hq := ?_) | refine rt' (hq := ?_)
    refine ⟨?_, hs.only0 rfl⟩
    have : weM m p q = none := by unfold weM; rw [if_neg (fun h => absurd h.1 (by simpa using hc))]
    rw [this]; rfl
end Go.Proofs.YtilajmcellffiaaGreatDoorX

namespace Go.Proofs.YtilajmcellffiaaGreatDoorX
open Go Go.RowKit
open IB (IT ITsAt flatT)
attribute [local irreducible] XS XC XA thenE blockE retE loopE loopS cutB cutN doneE SE
structure Qs where
  m : Mn
  t : RB IT
  f : Int → Option IT
  n : Nat
  c : Int
abbrev queueO (m : Mn) (tb mb : Nat) (c : Int) : Obj := .cells #[.int .u64 m.b, .int .i64 (m.a / 18446744073709551616), .int .u64 (m.a % 18446744073709551616), .int .u64 m.w, .int .i64 m.n, .pointer (some ⟨tb, 0, none⟩), .map (some mb), .int .u64 c] 136 (0, 0)
def vals (f : Int → Option IT) : Int → Option Value := fun i => (f i).map fun a => iv a.1
def updI (f : Int → Option IT) (i : Int) (a : Option IT) : Int → Option IT := fun j => bif decide (j = i) then a else f j
theorem vals_upd (f : Int → Option IT) (i : Int) (a : Option IT) : updF (vals f) i (a.map fun a => iv a.1) = vals (updI f i a) := by
  funext j
  unfold updF vals updI
  cases decide (j = i) <;> rfl
theorem vals_isSome (f : Int → Option IT) (i : Int) : (vals f i).isSome = (f i).isSome := by unfold vals; cases f i <;> rfl
def QAt (w : World) (qb : Nat) (s : Qs) (F : List Nat) : Prop :=
  ∃ tb mb Ft, F = qb :: mb :: Ft ∧ w.heap[qb]? = some (queueO s.m tb mb s.c) ∧ MapAt w mb (vals s.f) s.n ∧ IB.Obj6 w tb s.t Ft ∧ s.m.In ∧ U64 s.c
theorem QAt.keepD {w w' : World} {qb : Nat} {s : Qs} {F G : List Nat} (h : QAt w qb s F) (ho : Only G w w') (hd : ∀ k ∈ F, k ∉ G) : QAt w' qb s F := by
  obtain ⟨tb, mb, Ft, rfl, h1, h2, h3, h4⟩ := h
  exact ⟨tb, mb, Ft, rfl, ho.block h1 (hd qb (by simp)), h2.keep ho (hd mb (by simp)), h3.keepD ho (fun k hk => hd k (by simp [hk])), h4⟩
theorem QAt.only {w w' : World} {qb : Nat} {s : Qs} {F : List Nat} (h : QAt w qb s F) (ho : Only [] w w') : QAt w' qb s F := h.keepD ho (by simp)
theorem QAt.lt {w : World} {qb : Nat} {s : Qs} {F : List Nat} (h : QAt w qb s F) : ∀ k ∈ F, k < w.heap.size := by
  obtain ⟨tb, mb, Ft, rfl, h1, h2, h3, h4⟩ := h
  intro k hk
  simp only [List.mem_cons] at hk
  rcases hk with rfl | rfl | hk
  · exact lt_of_block h1
  · exact h2.lt
  · exact h3.lt k hk
theorem QAt.not {w : World} {qb : Nat} {s : Qs} {F : List Nat} (h : QAt w qb s F) {b : Nat} {cs : Array Value} {ty : Nat} {fz : Nat × Nat} (hb : w.heap[b]? = some (.cells cs ty fz)) (h1 : ty ≠ 221) (h2 : ty ≠ 189) (h3 : ty ≠ 136) : b ∉ F := fun hm => by
  obtain ⟨tb, mb, Ft, rfl, k1, k2, k3, k4⟩ := h
  simp only [List.mem_cons] at hm
  rcases hm with rfl | rfl | hm
  · exact blocks_ne hb k1 h3 rfl
  · exact k2.ne hb rfl
  · exact k3.not hb h1 h2 hm
theorem qb_not {w : World} {qb tb : Nat} {t : RB IT} {Ft : List Nat} (h : IB.Obj6 w tb t Ft) {cs : Array Value} {fz : Nat × Nat} (hb : w.heap[qb]? = some (.cells cs 136 fz)) : qb ∉ Ft := h.not hb (by decide) (by decide)
theorem mb_not {w : World} {mb tb c : Nat} {t : RB IT} {Ft : List Nat} {f : Int → Option Value} (h : IB.Obj6 w tb t Ft) (hM : MapAt w mb f c) : mb ∉ Ft := fun hm => by
  obtain ⟨p, fp, rfl, k1, k2, k3⟩ := h
  rcases List.mem_cons.1 hm with rfl | hm
  · exact hM.ne k1 rfl
  · obtain ⟨cs', fz', k4⟩ := k2.nodes mb hm
    exact hM.ne k4 rfl
def nowQ (s : Qs) : Int := bif decide (s.t.list.length = 0) then s.c else (flM s.m).getD 0
theorem nowQ_in {s : Qs} (h : U64 s.c) : U64 (nowQ s) := by
  unfold nowQ
  cases decide (s.t.list.length = 0)
  · rw [cond_false]
    unfold flM
    split
    · exact lat_in _ _
    · decide
  · exact h
def centreQ (s : Qs) : Qs := { s with m := (rebM s.m (nowQ s)).getD .zero }
theorem getD_in {o : Option Mn} (h : ∀ m, o = some m → m.In) : (o.getD .zero).In := by
  cases o with
  | none => decide
  | some m => exact h m rfl
theorem qlen_ret (qb : Nat) (s : Qs) (F : List Nat) (w0 : World) (h : QAt w0 qb s F) : Ret Tryz.prog 21 #[.pointer (some ⟨qb, 0, none⟩)] w0 fun v w' => v = .int .i64 (s.t.list.length : Nat) ∧ Only [] w0 w' := by
  obtain ⟨tb, mb, Ft, rfl, h1, h2, h3, h4⟩ := h
  have hs := (St.nil w0).track h1 (by simp)
  refine ret_of_xc Tryz.func21 (by kernel_rfl) rfl Tryz.ntmps21 rfl rfl rfl ?_
  repeat' (first|refine vs (k:=?_)|refine qRg ?_|refine Nx.h ?_|refine qCf ?_|fail)
  have ho := hs.onlyF [] (by simp [h1]) (by simp [D0])
  (with_reducible apply xs_call); exact rfl; exact rfl; exact IB.rbLen_ret tb s.t Ft _ (h3.only ho)
  rintro v w' ⟨rfl, ho⟩; replace hs := hs.call0 ho; repeat' (first|refine vs (k:=?_)|refine Nx.h ?_|fail)
  first | refine rt (hq := ?_) | refine rt' (hq := ?_)
  exact ⟨rfl, hs.onlyF [] (by simp [h1]) (by simp [D0])⟩
theorem qitems_ret (qb : Nat) (s : Qs) (F : List Nat) (w0 : World) (h : QAt w0 qb s F) (hlen : s.t.list.length ≤ 1000000) : Ret Tryz.prog 105 #[.pointer (some ⟨qb, 0, none⟩)] w0 fun v w' => (∃ G, SlV w' 29 7 v s.t.list.length (flatT s.t.list) G ∧ ∀ k ∈ G, w0.heap.size ≤ k) ∧ Only [] w0 w' := by
  obtain ⟨tb, mb, Ft, rfl, h1, h2, h3, h4⟩ := h
  have hs := (St.nil w0).track h1 (by simp)
  refine ret_of_xc Tryz.func105 (by kernel_rfl) rfl Tryz.ntmps105 rfl rfl rfl ?_
  repeat' (first|refine vs (k:=?_)|refine qRg ?_|refine Nx.h ?_|refine qCf ?_|fail)
  have ho := hs.onlyF [] (by simp [h1]) (by simp [D0])
  (with_reducible apply xs_call); exact rfl; exact rfl; exact IB.rbAll_ret tb s.t Ft _ (h3.only ho) hlen
  rintro v w' ⟨⟨G, hG, hn⟩, ho'⟩; replace hs := hs.call0 ho'
  have hz := ho.size
  repeat' (first|refine vs (k:=?_)|refine Nx.h ?_|fail)
  first | refine rt (hq := ?_) | refine rt' (hq := ?_)
  exact ⟨⟨G, hG, fun k hk => by have := hn k hk; omega⟩, hs.onlyF [] (by simp [h1]) (by simp [D0])⟩
theorem qnow_ret (qb : Nat) (s : Qs) (F : List Nat) (w0 : World) (h : QAt w0 qb s F) : Ret Tryz.prog 19 #[.pointer (some ⟨qb, 0, none⟩)] w0 fun v w' => v = .int .u64 (nowQ s) ∧ Only [] w0 w' := by
  have hq := h
  obtain ⟨tb, mb, Ft, rfl, h1, h2, h3, h4⟩ := h
  have hs := (St.nil w0).track h1 (by simp)
  refine ret_of_xc Tryz.func19 (by kernel_rfl) rfl Tryz.ntmps19 rfl rfl rfl ?_
  repeat' (first|refine vs (k:=?_)|refine qRg ?_|refine Nx.h ?_|refine qCf ?_|fail)
  have ho := hs.onlyF [] (by simp [h1]) (by simp [D0])
  (with_reducible apply xs_call); exact rfl; exact rfl; exact qlen_ret qb s _ _ (hq.only ho)
  rintro v w' ⟨rfl, ho⟩; replace hs := hs.call0 ho; repeat' (first|refine vs (k:=?_)|refine qRg ?_|refine Nx.h ?_|(refine xc_if rfl (fun hc=>?_) (fun hc=>?_))|fail)
  · first | refine rt (hq := ?_) | refine rt' (hq := ?_)
    refine ⟨?_, hs.onlyF [] (by simp [h1]) (by simp [D0])⟩
    have e : s.t.list.length = 0 := by omega
    unfold nowQ; rw [decide_eq_true e]; rfl
  · (with_reducible apply xs_call); exact rfl; exact rfl; exact floor_ret s.m h4.1 _
    rintro v w' ⟨rfl, ho⟩; replace hs := hs.call0 ho; repeat' (first|refine vs (k:=?_)|refine qRg ?_|refine Nx.h ?_|fail)
    first | refine rt (hq := ?_) | refine rt' (hq := ?_)
    refine ⟨?_, hs.onlyF [] (by simp [h1]) (by simp [D0])⟩
    have e : ¬ s.t.list.length = 0 := by omega
    unfold nowQ; rw [decide_eq_false e]; rfl
theorem qcentre_ret (qb : Nat) (s : Qs) (F : List Nat) (w0 : World) (h : QAt w0 qb s F) : Ret Tryz.prog 139 #[.pointer (some ⟨qb, 0, none⟩)] w0 fun v w' => QAt w' qb (centreQ s) F ∧ Only [qb] w0 w' := by
  have hq := h
  obtain ⟨tb, mb, Ft, rfl, h1, h2, h3, h4, h5⟩ := h
  have hs := (St.nil w0).track h1 (by simp)
  refine ret_of_xc Tryz.func139 (by kernel_rfl) rfl Tryz.ntmps139 rfl rfl rfl ?_
  skip
  refine dr [13] hs (k := ?_); intro hX w hs
  refine tk 0 hX (k := ?_)
  refine tk 1 hX (k := ?_)
  refine tk 2 hX (k := ?_)
  refine tk 3 hX (k := ?_)
  refine tk 4 hX (k := ?_)
  refine tk 5 hX (k := ?_)
  refine dt 6 hX (k := ?_)
  have ho := hs.onlyF [] (by simp [h1]) (by simp [D0])
  (with_reducible apply xs_call); exact rfl; exact rfl; exact qnow_ret qb s _ _ (hq.only ho)
  rintro v w' ⟨rfl, ho⟩; replace hs := hs.call0 ho; repeat' (first|refine Nx.h ?_|fail)
  refine dn (k := ?_)
  refine dt 7 hX (k := ?_)
  (with_reducible apply xs_call); exact rfl; exact rfl; exact rebase_ret s.m (nowQ s) h4 _
  rintro v w' ⟨rfl, ho⟩; replace hs := hs.call0 ho; repeat' (first|refine Nx.h ?_|fail)
  refine dn (k := ?_)
  refine tk 8 hX (k := ?_)
  refine tk 9 hX (k := ?_)
  refine tk 10 hX (k := ?_)
  refine tk 11 hX (k := ?_)
  refine tk 12 hX (k := ?_)
  refine dt 13 hX (k := ?_)
  repeat' (first|(refine stA hs (k:=?_);intro w hs)|refine Nx.h ?_|fail)
  refine dn (k := ?_)
  refine en (k := ?_)
  skip
  first | refine rt' (vs := []) (hr := resOk_nil) (hq := ?_) | refine rt (vs := []) (hr := resOk_nil) (hq := ?_)
  have ho2 := hs.onlyF [qb] (by simp) (by simp [D0])
  exact ⟨⟨tb, mb, Ft, rfl, hs.get At.head, h2.keep ho2 (fun hm => by obtain rfl := List.mem_singleton.1 hm; exact h2.ne h1 rfl), h3.keepD ho2 (fun k hk hm => by obtain rfl := List.mem_singleton.1 hm; exact qb_not h3 h1 hk), getD_in (fun m e => rebM_in h4 (nowQ_in h5) e), h5⟩, ho2⟩
end Go.Proofs.YtilajmcellffiaaGreatDoorX

namespace Go.Proofs.YtilajmcellffiaaGreatDoorX
open Go Go.RowKit
open IB (IT ITsAt flatT)
attribute [local irreducible] XS XC XA thenE blockE retE loopE loopS cutB cutN doneE SE
abbrev itQ (a : It) : Obj := .cells #[.int .u64 a.p.t, .int .u32 a.p.r, .int .u32 a.p.w, .int .i64 a.id, .int .u64 a.d.t, .int .u32 a.d.r, .int .u32 a.d.w] 29 (0, 0)
def preM (s : Qs) (a : IT) : Mn := bif decide (s.t.list.length = 0) then ⟨a.1.p.t, 0, 0, 0⟩ else s.m
def putQ1 (s : Qs) (a : IT) : Qs := ⟨(addM (preM s a) a.1.p).getD .zero, IB.RB.insert s.t a, updI s.f a.1.id (some a), if (s.f a.1.id).isSome then s.n else s.n + 1, s.c⟩
def putQ (s : Qs) (a : IT) : Qs := centreQ (putQ1 s a)
theorem preM_in {s : Qs} {a : IT} (h : s.m.In) : (preM s a).In := by
  unfold preM
  cases decide (s.t.list.length = 0)
  · exact h
  · exact ⟨a.2.1.1, inW0, u640, in640⟩
structure QP (w : World) (qb tb mb : Nat) (Ft : List Nat) (s : Qs) : Prop where
  q : w.heap[qb]? = some (queueO s.m tb mb s.c)
  M : MapAt w mb (vals s.f) s.n
  T : IB.Obj6 w tb s.t Ft
theorem QP.qm {w : World} {qb tb mb : Nat} {Ft : List Nat} {s : Qs} (h : QP w qb tb mb Ft s) : qb ≠ mb := h.M.ne h.q
theorem QP.qT {w : World} {qb tb mb : Nat} {Ft : List Nat} {s : Qs} (h : QP w qb tb mb Ft s) : qb ∉ Ft := qb_not h.T h.q
theorem QP.mT {w : World} {qb tb mb : Nat} {Ft : List Nat} {s : Qs} (h : QP w qb tb mb Ft s) : mb ∉ Ft := mb_not h.T h.M
theorem QP.only {w w' : World} {qb tb mb : Nat} {Ft : List Nat} {s : Qs} (h : QP w qb tb mb Ft s) (ho : Only [] w w') : QP w' qb tb mb Ft s := ⟨ho.block h.q (by simp), h.M.keep ho (by simp), h.T.only ho⟩
theorem QP.own {w w' : World} {qb tb mb : Nat} {Ft : List Nat} {s : Qs} {m : Mn} {c : Int} (h : QP w qb tb mb Ft s) (ho : Only [qb] w w') (hq : w'.heap[qb]? = some (queueO m tb mb c)) : QP w' qb tb mb Ft { s with m := m, c := c } :=
  ⟨hq, h.M.keep ho (fun hm => h.qm (List.mem_singleton.1 hm).symm), h.T.keepD ho (fun k hk hm => by obtain rfl := List.mem_singleton.1 hm; exact h.qT hk)⟩
set_option maxHeartbeats 4000000 in
theorem qput_ret (qb : Nat) (s : Qs) (F : List Nat) (a : IT) (w0 : World) (h : QAt w0 qb s F) (hlen : s.t.list.length + 1 ≤ 1000000) (hn : s.n < 1000000) :
    Ret Tryz.prog 106 #[.pointer (some ⟨qb, 0, none⟩), iv a.1] w0 fun v w' => ∃ F', QAt w' qb (putQ s a) F' ∧ (∀ k ∈ F', k ∈ F ∨ w0.heap.size ≤ k) ∧ Only F w0 w' := by
  have hq := h
  obtain ⟨tb, mb, Ft, rfl, h1, h2, h3, h4, h5⟩ := h
  have hs := (St.nil w0).track h1 (by simp)
  have lt1 := lt_of_block h1
  have ltF := hq.lt
  have hin := preM_in (s := s) (a := a) h4
  refine ret_of_xc Tryz.func106 (by kernel_rfl) rfl Tryz.ntmps106 rfl rfl rfl ?_
  refine xc_seq ?_
  refine xc_region ?_ ?_; exact rfl
  refine bx hs (k := ?_); intro bq wq hzq hs
  refine XS.nil ?_
  refine then_of ?_
  refine xc_seq ?_
  have hbq := hs.new (bq, true) (by simp) rfl
  simp only at hbq
  have hP0 : QP w0 qb tb mb Ft s := ⟨h1, h2, h3⟩
  refine xc_cutN (fun _ : Unit => [(0, .pointer (some ⟨qb, 0, none⟩)), (3, .pointer (some ⟨bq, 0, none⟩))]) (fun _ w => QP w qb tb mb Ft { s with m := preM s a } ∧ Only [qb] w0 w ∧ w.heap[bq]? = some (itQ a.1)) ?_ ?_
  · repeat' (first|refine vs (k:=?_)|refine qRg ?_|refine Nx.h ?_|fail)
    have ho := hs.onlyF [] (by simp [h1]) (by simp [D0])
    (with_reducible apply xs_call); exact rfl; exact rfl; exact qlen_ret qb s _ _ (hq.only ho)
    rintro v w' ⟨rfl, ho⟩; replace hs := hs.call0 ho; repeat' (first|refine vs (k:=?_)|(refine stA hs (k:=?_);intro w hs)|refine qRg ?_|refine Nx.h ?_|(refine xc_if rfl (fun hc=>?_) (fun hc=>?_))|fail)
    · have e : s.t.list.length = 0 := by omega
      have ho2 := hs.onlyF [qb] (by simp) (by simp [D0])
      have e2 : preM s a = ⟨a.1.p.t, 0, 0, 0⟩ := by unfold preM; rw [decide_eq_true e]; rfl
      rw [e2]
      exact cutN_normal () (by (repeat (first | exact agree_nil | (apply agree_cons; exact rfl)))) ⟨hP0.own ho2 (hs.get (At.tail At.head)), ho2, hs.get At.head⟩
    · have e : ¬ s.t.list.length = 0 := by omega
      have ho2 := hs.onlyF [] (by simp [h1]) (by simp [D0])
      have e2 : preM s a = s.m := by unfold preM; rw [decide_eq_false e]; rfl
      rw [e2]
      exact cutN_normal () (by (repeat (first | exact agree_nil | (apply agree_cons; exact rfl)))) ⟨hP0.only ho2, ho2.weaken (by simp), hs.get At.head⟩
  clear hs
  rintro _ env wA ⟨hP, hoA, hQ⟩
  have n1 : bq ≠ qb := blocks_ne hQ hP.q (by decide)
  have hs := ((St.nil wA).track hP.q (by simp)).track hQ (by simpa using n1)
  repeat' (first|refine Nx.h ?_|fail)
  refine dr [13] hs (k := ?_); intro hX w hs
  refine tk 0 hX (k := ?_)
  refine tk 1 hX (k := ?_)
  refine tk 2 hX (k := ?_)
  refine tk 3 hX (k := ?_)
  refine tk 4 hX (k := ?_)
  refine tk 5 hX (k := ?_)
  refine tk 6 hX (k := ?_)
  refine dt 7 hX (k := ?_)
  (with_reducible apply xs_call); exact rfl; exact rfl; exact madd_ret (preM s a) a.1.p hin a.2.1 _
  rintro v w' ⟨rfl, ho⟩; replace hs := hs.call0 ho; repeat' (first|refine Nx.h ?_|fail)
  refine dn (k := ?_)
  refine tk 8 hX (k := ?_)
  refine tk 9 hX (k := ?_)
  refine tk 10 hX (k := ?_)
  refine tk 11 hX (k := ?_)
  refine tk 12 hX (k := ?_)
  refine dt 13 hX (k := ?_)
  repeat' (first|(refine stA hs (k:=?_);intro w hs)|refine Nx.h ?_|fail)
  refine dn (k := ?_)
  refine en (k := ?_)
  repeat' (first|refine Nx.h ?_|fail)
  have ho2 := hs.onlyF [qb] (by simp [hQ]) (by simp [D0])
  have hP2 := hP.own ho2 (hs.get (At.tail At.head))
  have hQ2 := hs.get At.head
  have hoB := hoA.step ho2 (fun k hk => .inl hk)
  clear hs
  have hs := ((St.nil _).track hP2.q (by simp)).track hQ2 (by simpa using n1)
  refine dr [] hs (k := ?_); intro hX w hs
  refine tk 0 hX (k := ?_)
  refine tk 1 hX (k := ?_)
  refine tk 2 hX (k := ?_)
  refine tk 3 hX (k := ?_)
  refine tk 4 hX (k := ?_)
  refine tk 5 hX (k := ?_)
  refine dt 6 hX (k := ?_)
  have ho3 := hs.onlyF [] (by simp [hP2.q, hQ2]) (by simp [D0])
  have hP3 := hP2.only ho3
  have hQ3 := hs.get At.head
  have hoC := hoB.step ho3 (by simp)
  (with_reducible apply xs_call); exact rfl; exact rfl; exact IB.rbInsert_ret tb s.t Ft a _ hP3.T hlen
  rintro v w4 ⟨rfl, F', hT', hF', ho4⟩
  have hz := hoC.size
  have hM4 := hP3.M.keep ho4 hP3.mT
  have hq4 := ho4.block hP3.q hP3.qT
  have hQ4 := ho4.block hQ3 (hP3.T.not hQ3 (by decide) (by decide))
  have hF'' : ∀ k ∈ F', k ∈ Ft ∨ w0.heap.size ≤ k := fun k hk => by rcases hF' k hk with h | h; exact .inl h; exact .inr (by omega)
  have hoD : Only (qb :: mb :: Ft) w0 w4 := (hoC.weaken (by simp)).step ho4 (fun k hk => .inl (by simp [hk]))
  clear hs
  have hs := ((St.nil w4).track hq4 (by simp)).track hQ4 (by simpa using n1)
  repeat' (first|refine Nx.h ?_|fail)
  refine dn (k := ?_)
  refine en (k := ?_)
  repeat' (first|refine Nx.h ?_|fail)
  refine dr [] hs (k := ?_); intro hX w hs
  refine tk 0 hX (k := ?_)
  refine tk 1 hX (k := ?_)
  refine tk 2 hX (k := ?_)
  refine tk 3 hX (k := ?_)
  refine tk 4 hX (k := ?_)
  refine tk 5 hX (k := ?_)
  refine tk 6 hX (k := ?_)
  refine dt 7 hX (k := ?_)
  have ho5 := hs.onlyF [] (by simp [hq4, hQ4]) (by simp [D0])
  have hM5 := hM4.keep ho5 (by simp)
  have hT5 := hT'.only ho5
  have hq5 := hs.get (At.tail At.head)
  refine xs_mapPut (e := 29) (v := iv a.1) hM5 a.2.2.1 (by show s.n < maxLen; unfold maxLen; omega) (by kernel_rfl) (k := ?_)
  intro w6 hM6 ho6
  have hbm := hM5.ne (hs.get At.head)
  have hqm := hM5.ne hq5
  have hmT := mb_not hT5 hM5
  replace hs := hs.call ho6 (fun k hk hm => by
    obtain rfl := List.mem_singleton.1 hk
    simp only [List.map_cons, List.map_nil, List.mem_cons, List.not_mem_nil, or_false] at hm
    rcases hm with rfl | rfl
    · exact hbm rfl
    · exact hqm rfl) (by simp [D0])
  have hq6 := hs.get (At.tail At.head)
  have hT6 := hT5.keepD ho6 (fun k hk hm => by obtain rfl := List.mem_singleton.1 hm; exact hmT hk)
  have hoE : Only (qb :: mb :: Ft) w0 w6 := (hoD.step ho5 (by simp)).step ho6 (fun k hk => .inl (by obtain rfl := List.mem_singleton.1 hk; simp))
  have hM6' : MapAt w6 mb (vals (updI s.f a.1.id (some a))) (if (s.f a.1.id).isSome then s.n else s.n + 1) := by
    rw [← vals_upd, ← vals_isSome]
    exact hM6
  have hA6 : QAt w6 qb (putQ1 s a) (qb :: mb :: F') := ⟨tb, mb, F', rfl, hq6, hM6', hT6, getD_in (fun m e => addM_in hin e), h5⟩
  have hz6 := hoE.size
  have hQ6 := hs.get At.head
  clear hs
  have hs := ((St.nil w6).track hq6 (by simp)).track hQ6 (by simpa using n1)
  refine XS.nil ?_
  refine dn (k := ?_)
  refine en (k := ?_)
  repeat' (first|refine vs (k:=?_)|refine qRg ?_|refine Nx.h ?_|fail)
  have ho7 := hs.onlyF [] (by simp [hq6, hQ6]) (by simp [D0])
  (with_reducible apply xs_call); exact rfl; exact rfl; exact qcentre_ret qb (putQ1 s a) _ _ (hA6.only ho7)
  rintro v w8 ⟨hA8, ho8⟩
  have hs := St.nil w8
  repeat' (first|refine Nx.h ?_|fail)
  first | refine rt' (vs := []) (hr := resOk_nil) (hq := ?_) | refine rt (vs := []) (hr := resOk_nil) (hq := ?_)
  refine ⟨_, hA8, fun k hk => ?_, ((hoE.step ho7 (by simp)).step ho8 (fun k hk => .inl (by obtain rfl := List.mem_singleton.1 hk; simp)))⟩
  simp only [List.mem_cons] at hk
  rcases hk with rfl | rfl | hk
  · exact .inl (by simp)
  · exact .inl (by simp)
  · rcases hF'' k hk with h | h
    · exact .inl (by simp [h])
    · exact .inr h
end Go.Proofs.YtilajmcellffiaaGreatDoorX

namespace Go.Proofs.YtilajmcellffiaaGreatDoorX
open Go Go.RowKit
open IB (IT ITsAt flatT)
attribute [local irreducible] XS XC XA thenE blockE retE loopE loopS cutB cutN doneE SE
def cutT (a : IT) (t : RB IT) : RB IT := bif RB.has IB.ltT a t then RB.blacken ((IB.delC a t).getD .nil) else t
def CutOk (a : IT) (t : RB IT) : Prop := RB.has IB.ltT a t = true → IB.delC a t = some ((IB.delC a t).getD .nil) ∧ ((IB.delC a t).getD .nil).list.length + 1 = t.list.length
def cutQ1 (s : Qs) (a : IT) : Qs := ⟨(takM s.m a.1.p).getD .zero, cutT a s.t, updI s.f a.1.id none, if (s.f a.1.id).isSome then s.n - 1 else s.n, nowQ s⟩
def cutQ (s : Qs) (a : IT) : Qs := centreQ (cutQ1 s a)
set_option maxHeartbeats 4000000 in
theorem qcut_ret (qb : Nat) (s : Qs) (F : List Nat) (a : IT) (w0 : World) (h : QAt w0 qb s F) (hlen : s.t.list.length ≤ 1000000) (hd : CutOk a s.t) :
    Ret Tryz.prog 101 #[.pointer (some ⟨qb, 0, none⟩), iv a.1] w0 fun v w' => ∃ F', QAt w' qb (cutQ s a) F' ∧ (∀ k ∈ F', k ∈ F ∨ w0.heap.size ≤ k) ∧ Only F w0 w' := by
  have hq := h
  obtain ⟨tb, mb, Ft, rfl, h1, h2, h3, h4, h5⟩ := h
  have hs := (St.nil w0).track h1 (by simp)
  have lt1 := lt_of_block h1
  have ltF := hq.lt
  have hP0 : QP w0 qb tb mb Ft s := ⟨h1, h2, h3⟩
  refine ret_of_xc Tryz.func101 (by kernel_rfl) rfl Tryz.ntmps101 rfl rfl rfl ?_; refine xc_seq ?_; refine xc_region ?_ ?_; exact rfl; refine bx hs (k := ?_); intro bq wq hzq hs; repeat' (first|refine vs (k:=?_)|refine qRg ?_|refine Nx.h ?_|fail)
  have hbq := hs.new (bq, true) (by simp) rfl
  simp only at hbq
  have ho := hs.onlyF [] (by simp [h1]) (by simp [D0])
  (with_reducible apply xs_call); exact rfl; exact rfl; exact qnow_ret qb s _ _ (hq.only ho)
  rintro v w' ⟨rfl, ho⟩; replace hs := hs.call0 ho; repeat' (first|refine vs (k:=?_)|(refine st hs (k:=?_);intro w hs)|refine Nx.h ?_|fail)
  refine dr [13] hs (k := ?_); intro hX w hs
  refine tk 0 hX (k := ?_)
  refine tk 1 hX (k := ?_)
  refine tk 2 hX (k := ?_)
  refine tk 3 hX (k := ?_)
  refine tk 4 hX (k := ?_)
  refine tk 5 hX (k := ?_)
  refine tk 6 hX (k := ?_)
  refine dt 7 hX (k := ?_)
  (with_reducible apply xs_call); exact rfl; exact rfl; exact mtake_ret s.m a.1.p h4 a.2.1 _
  rintro v w' ⟨rfl, ho⟩; replace hs := hs.call0 ho; repeat' (first|refine Nx.h ?_|fail)
  refine dn (k := ?_)
  refine tk 8 hX (k := ?_)
  refine tk 9 hX (k := ?_)
  refine tk 10 hX (k := ?_)
  refine tk 11 hX (k := ?_)
  refine tk 12 hX (k := ?_)
  refine dt 13 hX (k := ?_)
  repeat' (first|(refine stA hs (k:=?_);intro w hs)|refine Nx.h ?_|fail)
  refine dn (k := ?_)
  refine en (k := ?_)
  repeat' (first|refine Nx.h ?_|fail)
  have ho2 := hs.onlyF [qb] (by simp) (by simp [D0])
  have hP2 := hP0.own ho2 (hs.get (At.tail At.head))
  have hQ2 := hs.get At.head
  have n1 : bq ≠ qb := blocks_ne hQ2 hP2.q (by decide)
  clear hs
  have hs := ((St.nil _).track hP2.q (by simp)).track hQ2 (by simpa using n1)
  refine dr [] hs (k := ?_); intro hX w hs
  refine tk 0 hX (k := ?_)
  refine tk 1 hX (k := ?_)
  refine tk 2 hX (k := ?_)
  refine tk 3 hX (k := ?_)
  refine tk 4 hX (k := ?_)
  refine tk 5 hX (k := ?_)
  refine dt 6 hX (k := ?_)
  have ho3 := hs.onlyF [] (by simp [hP2.q, hQ2]) (by simp [D0])
  have hP3 := hP2.only ho3
  have hQ3 := hs.get At.head
  have hoC := ho2.step ho3 (by simp)
  (with_reducible apply xs_call); exact rfl; exact rfl; exact IB.rbDelete_ret tb s.t Ft a _ _ hP3.T hd hlen
  rintro v w4 ⟨rfl, F', hT', hF', ho4⟩
  have hz := hoC.size
  have hM4 := hP3.M.keep ho4 hP3.mT
  have hq4 := ho4.block hP3.q hP3.qT
  have hQ4 := ho4.block hQ3 (hP3.T.not hQ3 (by decide) (by decide))
  have hF'' : ∀ k ∈ F', k ∈ Ft ∨ w0.heap.size ≤ k := fun k hk => by rcases hF' k hk with h | h; exact .inl h; exact .inr (by omega)
  have hoD : Only (qb :: mb :: Ft) w0 w4 := (hoC.weaken (by simp)).step ho4 (fun k hk => .inl (by simp [hk]))
  clear hs
  have hs := ((St.nil w4).track hq4 (by simp)).track hQ4 (by simpa using n1)
  repeat' (first|refine Nx.h ?_|fail)
  refine dn (k := ?_)
  refine en (k := ?_)
  repeat' (first|refine Nx.h ?_|fail)
  refine dr [] hs (k := ?_); intro hX w hs
  refine tk 0 hX (k := ?_)
  refine tk 1 hX (k := ?_)
  refine tk 2 hX (k := ?_)
  refine tk 3 hX (k := ?_)
  refine tk 4 hX (k := ?_)
  refine tk 5 hX (k := ?_)
  refine dt 6 hX (k := ?_)
  have ho5 := hs.onlyF [] (by simp [hq4, hQ4]) (by simp [D0])
  have hM5 := hM4.keep ho5 (by simp)
  have hT5 := hT'.only ho5
  have hq5 := hs.get (At.tail At.head)
  refine xs_mapDel (e := 29) hM5 a.2.2.1 (by kernel_rfl) (k := ?_)
  intro w6 hM6 ho6
  have hbm := hM5.ne (hs.get At.head)
  have hqm := hM5.ne hq5
  have hmT := mb_not hT5 hM5
  replace hs := hs.call ho6 (fun k hk hm => by
    obtain rfl := List.mem_singleton.1 hk
    simp only [List.map_cons, List.map_nil, List.mem_cons, List.not_mem_nil, or_false] at hm
    rcases hm with rfl | rfl
    · exact hbm rfl
    · exact hqm rfl) (by simp [D0])
  have hq6 := hs.get (At.tail At.head)
  have hT6 := hT5.keepD ho6 (fun k hk hm => by obtain rfl := List.mem_singleton.1 hm; exact hmT hk)
  have hoE : Only (qb :: mb :: Ft) w0 w6 := (hoD.step ho5 (by simp)).step ho6 (fun k hk => .inl (by obtain rfl := List.mem_singleton.1 hk; simp))
  have hM6' : MapAt w6 mb (vals (updI s.f a.1.id none)) (if (s.f a.1.id).isSome then s.n - 1 else s.n) := by
    rw [← vals_upd, ← vals_isSome]
    exact hM6
  have hA6 : QAt w6 qb (cutQ1 s a) (qb :: mb :: F') := ⟨tb, mb, F', rfl, hq6, hM6', hT6, getD_in (fun m e => takM_in h4 e), nowQ_in h5⟩
  have hz6 := hoE.size
  have hQ6 := hs.get At.head
  clear hs
  have hs := ((St.nil w6).track hq6 (by simp)).track hQ6 (by simpa using n1)
  refine XS.nil ?_
  refine dn (k := ?_)
  refine en (k := ?_)
  repeat' (first|refine vs (k:=?_)|refine qRg ?_|refine Nx.h ?_|fail)
  have ho7 := hs.onlyF [] (by simp [hq6, hQ6]) (by simp [D0])
  (with_reducible apply xs_call); exact rfl; exact rfl; exact qcentre_ret qb (cutQ1 s a) _ _ (hA6.only ho7)
  rintro v w8 ⟨hA8, ho8⟩
  have hs := St.nil w8
  repeat' (first|refine Nx.h ?_|fail)
  first | refine rt' (vs := []) (hr := resOk_nil) (hq := ?_) | refine rt (vs := []) (hr := resOk_nil) (hq := ?_)
  refine ⟨_, hA8, fun k hk => ?_, ((hoE.step ho7 (by simp)).step ho8 (fun k hk => .inl (by obtain rfl := List.mem_singleton.1 hk; simp)))⟩
  simp only [List.mem_cons] at hk
  rcases hk with rfl | rfl | hk
  · exact .inl (by simp)
  · exact .inl (by simp)
  · rcases hF'' k hk with h | h
    · exact .inl (by simp [h])
    · exact .inr h
theorem vals_get (f : Int → Option IT) (i : Int) : (vals f i).getD (iv .zero) = iv (match f i with | some a => a.1 | none => .zero) := by unfold vals; cases f i <;> rfl
def leaveQ (s : Qs) (id : Int) : Qs := match s.f id with | some a => cutQ s a | none => s
set_option maxHeartbeats 4000000 in
theorem qleave_ret (qb : Nat) (s : Qs) (F : List Nat) (id : Int) (w0 : World) (h : QAt w0 qb s F) (hid : In64 id) (hlen : s.t.list.length ≤ 1000000) (hd : ∀ a, s.f id = some a → CutOk a s.t) :
    Ret Tryz.prog 61 #[.pointer (some ⟨qb, 0, none⟩), .int .i64 id] w0 fun v w' => v = .tuple #[iv (match s.f id with | some a => a.1 | none => .zero), .int .i64 (if (s.f id).isSome then 0 else 14)] ∧ ∃ F', QAt w' qb (leaveQ s id) F' ∧ (∀ k ∈ F', k ∈ F ∨ w0.heap.size ≤ k) ∧ Only F w0 w' := by
  have hq := h
  obtain ⟨tb, mb, Ft, rfl, h1, h2, h3, h4, h5⟩ := h
  have hs := (St.nil w0).track h1 (by simp)
  refine ret_of_xc Tryz.func61 (by kernel_rfl) rfl Tryz.ntmps61 rfl rfl rfl ?_
  refine xc_seq ?_
  refine xc_region ?_ ?_; exact rfl
  refine al hs (k := ?_); intro b4 w hz hs
  have g4 := hs.new (b4, true) (by simp) rfl
  simp only at g4
  repeat' (first|refine vs (k:=?_)|refine qRg ?_|refine Nx.h ?_|refine qCf ?_|fail)
  have ho := hs.onlyF [] (by simp [h1]) (by simp [D0])
  refine xs_look (e := 29) (z := iv .zero) (h2.keep ho (by simp)) hid (by kernel_rfl) (by kernel_rfl) (k := ?_)
  rw [vals_get, vals_isSome]
  unfold leaveQ
  cases hf : s.f id with
  | none =>
    repeat' (first|refine vs (k:=?_)|(refine stA hs (k:=?_);intro w hs)|(refine al hs (k:=?_);intro b w hz hs)|refine qRg ?_|refine Nx.h ?_|refine qCt ?_|fail)
    first | refine rt (hq := ?_) | refine rt' (hq := ?_)
    have ho := hs.onlyF [] (by simp [h1]) (by simp [D0])
    exact ⟨rfl, _, hq.only ho, fun k hk => .inl hk, ho.weaken (by simp)⟩
  | some a =>
    refine vs (k := ?_)
    refine vs (k := ?_)
    refine vs (k := ?_)
    refine al hs (k := ?_); intro b6 w6 hz6 hs
    have g6 := hs.new (b6, true) (by simp) rfl
    simp only at g6
    have n46 : b6 ≠ b4 := by have := hs.nd; simp only [List.map_cons, List.nodup_cons, List.mem_cons, not_or] at this; exact this.1.1
    repeat' (first|refine vs (k:=?_)|(refine stA hs (k:=?_);intro w hs)|refine qRg ?_|refine Nx.h ?_|refine qCf ?_|fail)
    have ho := hs.onlyF [] (by simp [h1]) (by simp [D0])
    have hqw := hq.only ho
    (with_reducible apply xs_call); exact rfl; exact rfl; exact qcut_ret qb s _ a _ hqw hlen (hd a hf)
    rintro v w7 ⟨F', hA, hF', ho7⟩
    have k4 := ho7.block (hs.get (At.tail At.head)) (hqw.not (hs.get (At.tail At.head)) (by decide) (by decide) (by decide))
    have k6 := ho7.block (hs.get At.head) (hqw.not (hs.get At.head) (by decide) (by decide) (by decide))
    have hz7 := ho.size
    clear hs
    have hs := ((St.nil w7).track k4 (by simp)).track k6 (by simpa using n46)
    repeat' (first|refine vs (k:=?_)|(refine stA hs (k:=?_);intro w hs)|refine qRg ?_|refine Nx.h ?_|fail)
    first | refine rt (hq := ?_) | refine rt' (hq := ?_)
    have ho8 := hs.onlyF [b4] (by simp [k6]) (by simp [D0])
    refine ⟨rfl, F', hA.keepD ho8 (fun k hk hm => by obtain rfl := List.mem_singleton.1 hm; exact hA.not k4 (by decide) (by decide) (by decide) hk), fun k hk => ?_, ((ho.weaken (by simp)).step ho7 (fun k hk => .inl hk)).step ho8 (fun k hk => .inr (by obtain rfl := List.mem_singleton.1 hk; exact g4))⟩
    rcases hF' k hk with h | h
    · exact .inl h
    · exact .inr (by omega)
end Go.Proofs.YtilajmcellffiaaGreatDoorX

namespace Go.Proofs.YtilajmcellffiaaGreatDoorX
open Go Go.RowKit
open IB (IT ITsAt flatT)
attribute [local irreducible] XS XC XA thenE blockE retE loopE loopS cutB cutN doneE SE
def newQ (c : Int) : Qs := ⟨.zero, .nil, fun _ => none, 0, c⟩
theorem qnew_ret (c : Int) (hc : U64 c) (w0 : World) : Ret Tryz.prog 60 #[.int .u64 c] w0 fun v w' => (∃ qb F, v = .pointer (some ⟨qb, 0, none⟩) ∧ QAt w' qb (newQ c) F ∧ ∀ k ∈ F, w0.heap.size ≤ k) ∧ Only [] w0 w' := by
  have hs := St.nil w0
  refine ret_of_xc Tryz.func60 (by kernel_rfl) rfl Tryz.ntmps60 rfl rfl rfl ?_
  repeat' (first|refine vs (k:=?_)|refine qRg ?_|refine Nx.h ?_|fail)
  (with_reducible apply xs_call); exact rfl; exact rfl; exact IB.newTree_ret [] (.slice none 0 0) (by simp) _ (LsAt.nil _ _ _)
  rintro v w1 ⟨⟨tb, Ft, rfl, hT, hFt⟩, ho⟩; replace hs := hs.call0 ho
  have ho1 := hs.only0 rfl
  have hz1 := ho1.size
  refine xs_mapNew (k := ?_)
  intro mb w2 ho2 hM hmb
  clear hs
  have hs := St.nil w2
  refine vs (k := ?_)
  refine vs (k := ?_)
  refine bx hs (k := ?_); intro qb w3 hz hs
  have hqb := hs.new (qb, true) (by simp) rfl
  simp only at hqb
  have hz2 := ho2.size
  have hM3 := hM.keep (hs.only0 rfl) (by simp)
  have hT3 := (hT.only ho2).only (hs.only0 rfl)
  have hM4 : MapAt w3 mb (vals (fun _ => none)) 0 := hM3
  have hq3 := hs.get At.head
  have ho3 := (ho1.trans ho2).trans (hs.only0 rfl)
  have hA : QAt w3 qb (newQ c) (qb :: mb :: Ft) := ⟨tb, mb, Ft, rfl, hq3, hM4, hT3, (by decide : Mn.zero.In), hc⟩
  have hnew : ∀ k ∈ qb :: mb :: Ft, w0.heap.size ≤ k := fun k hk => by
    simp only [List.mem_cons] at hk
    rcases hk with rfl | rfl | hk
    · omega
    · omega
    · have := hFt k hk; omega
  repeat' (first|refine vs (k:=?_)|refine Nx.h ?_|fail)
  first | refine rt (hq := ?_) | refine rt' (hq := ?_)
  exact ⟨⟨qb, _, rfl, hA, hnew⟩, ho3⟩
def owedQ (s : Qs) (id : Int) : Int := match s.f id with | some a => cmpI ((ovM s.m a.1.p).getD 0) 0 | none => 0
def lagQ (s : Qs) (id : Int) : Int := match s.f id with | some a => (rdM s.m a.1.p).getD 0 | none => 0
def errN (b : Bool) : Int := bif b then 0 else 14
set_option maxHeartbeats 4000000 in
theorem qowed_ret (qb : Nat) (s : Qs) (F : List Nat) (id : Int) (w0 : World) (h : QAt w0 qb s F) (hid : In64 id) : Ret Tryz.prog 118 #[.pointer (some ⟨qb, 0, none⟩), .int .i64 id] w0 fun v w' => v = .tuple #[.int .i64 (owedQ s id), .int .i64 (errN (s.f id).isSome)] ∧ Only [] w0 w' := by
  obtain ⟨tb, mb, Ft, rfl, h1, h2, h3, h4, h5⟩ := h
  have hs := (St.nil w0).track h1 (by simp)
  refine ret_of_xc Tryz.func118 (by kernel_rfl) rfl Tryz.ntmps118 rfl rfl rfl ?_
  repeat' (first|refine vs (k:=?_)|refine qRg ?_|refine Nx.h ?_|refine qCf ?_|fail)
  have ho := hs.onlyF [] (by simp [h1]) (by simp [D0])
  refine xs_look (e := 29) (z := iv .zero) (h2.keep ho (by simp)) hid (by kernel_rfl) (by kernel_rfl) (k := ?_)
  rw [vals_get, vals_isSome]
  unfold owedQ
  cases hf : s.f id with
  | none =>
    repeat' (first|refine vs (k:=?_)|(refine stA hs (k:=?_);intro w hs)|(refine al hs (k:=?_);intro b w hz hs)|refine qRg ?_|refine Nx.h ?_|refine qCt ?_|fail)
    first | refine rt (hq := ?_) | refine rt' (hq := ?_)
    exact ⟨rfl, hs.onlyF [] (by simp [h1]) (by simp [D0])⟩
  | some a =>
    repeat' (first|refine vs (k:=?_)|(refine stA hs (k:=?_);intro w hs)|(refine al hs (k:=?_);intro b w hz hs)|refine qRg ?_|refine Nx.h ?_|refine qCf ?_|fail)
    refine dr [] hs (k := ?_); intro hX w hs
    refine tk 0 hX (k := ?_)
    refine tk 1 hX (k := ?_)
    refine tk 2 hX (k := ?_)
    refine tk 3 hX (k := ?_)
    refine tk 4 hX (k := ?_)
    refine tk 5 hX (k := ?_)
    refine dt 6 hX (k := ?_)
    (with_reducible apply xs_call); exact rfl; exact rfl; exact lsign_ret s.m a.1.p h4 a.2.1 _
    rintro v w' ⟨rfl, ho⟩; replace hs := hs.call0 ho; repeat' (first|refine Nx.h ?_|fail)
    refine dn (k := ?_)
    refine tk 7 hX (k := ?_)
    refine tk 8 hX (k := ?_)
    refine tk 9 hX (k := ?_)
    refine tk 10 hX (k := ?_)
    refine tk 11 hX (k := ?_)
    refine en (k := ?_)
    repeat' (first|refine vs (k:=?_)|refine qRg ?_|refine Nx.h ?_|fail)
    first | refine rt (hq := ?_) | refine rt' (hq := ?_)
    exact ⟨rfl, hs.onlyF [] (by simp [h1]) (by simp [D0])⟩
set_option maxHeartbeats 4000000 in
theorem qlag_ret (qb : Nat) (s : Qs) (F : List Nat) (id : Int) (w0 : World) (h : QAt w0 qb s F) (hid : In64 id) : Ret Tryz.prog 27 #[.pointer (some ⟨qb, 0, none⟩), .int .i64 id] w0 fun v w' => v = .tuple #[wv (lagQ s id), .int .i64 (errN (s.f id).isSome)] ∧ Only [] w0 w' := by
  obtain ⟨tb, mb, Ft, rfl, h1, h2, h3, h4, h5⟩ := h
  have hs := (St.nil w0).track h1 (by simp)
  refine ret_of_xc Tryz.func27 (by kernel_rfl) rfl Tryz.ntmps27 rfl rfl rfl ?_
  repeat' (first|refine vs (k:=?_)|(refine al hs (k:=?_);intro b w hz hs)|refine qRg ?_|refine Nx.h ?_|refine qCf ?_|fail)
  have ho := hs.onlyF [] (by simp [h1]) (by simp [D0])
  refine xs_look (e := 29) (z := iv .zero) (h2.keep ho (by simp)) hid (by kernel_rfl) (by kernel_rfl) (k := ?_)
  rw [vals_get, vals_isSome]
  unfold lagQ
  cases hf : s.f id with
  | none =>
    repeat' (first|refine vs (k:=?_)|(refine stA hs (k:=?_);intro w hs)|(refine al hs (k:=?_);intro b w hz hs)|refine qRg ?_|refine Nx.h ?_|refine qCt ?_|fail)
    first | refine rt (hq := ?_) | refine rt' (hq := ?_)
    exact ⟨rfl, hs.onlyF [] (by simp [h1]) (by simp [D0])⟩
  | some a =>
    repeat' (first|refine vs (k:=?_)|(refine stA hs (k:=?_);intro w hs)|(refine al hs (k:=?_);intro b w hz hs)|refine qRg ?_|refine Nx.h ?_|refine qCf ?_|fail)
    refine dr [] hs (k := ?_); intro hX w hs
    refine tk 0 hX (k := ?_)
    refine tk 1 hX (k := ?_)
    refine tk 2 hX (k := ?_)
    refine tk 3 hX (k := ?_)
    refine tk 4 hX (k := ?_)
    refine tk 5 hX (k := ?_)
    refine pd0 10 8 hs (k := ?_); intro f X w hp; have hs := hp.st
    apply xa_pend 6 10 (f := f) (X := X) hX hp; exact rfl; exact rfl; (first | (apply makes_alloc tabOk; exact rfl) | (apply makes_slice tabOk; exact rfl; exact rfl; exact rfl; exact rfl; exact rfl; (intro X; ((repeat (first | exact Bld.nil | (apply Bld.one; exact rfl; (conv => lhs; whnf); exact rfl; (repeat (first | exact PutL.nil | apply PutL.skip | apply PutL.cons))) | (apply Bld.agg; exact rfl; exact rfl; exact rfl; (repeat (first | exact PutL.nil | apply PutL.skip | apply PutL.cons))))))))); kernel_rfl; kernel_rfl; kernel_rfl; kernel_rfl; (intro X Y; (repeat (first | exact pgg_base | refine pgg_step ?_ (by exact rfl)))); (intro w' hs; ((first | exact se_hold hs.hold | exact se_hold (hold_sim hs.hold rfl) | exact se_hold (hold_sim hs.hold.tail rfl) | exact se_hold (hR hs rfl) | exact se_hold hs.hold.tail | exact se_hold hs.hold.tail.tail | exact se_hold hs.hold.tail.tail.tail | exact se_done rfl))); intro f X w hp; have hs := hp.st
    (with_reducible apply xs_call); exact rfl; exact rfl; exact read_ret s.m a.1.p h4 a.2.1 _
    rintro v w' ⟨rfl, ho⟩; replace hp := hp.only ho; replace hs := hp.st; repeat' (first|refine Nx.h ?_|fail)
    refine dn (k := ?_)
    refine tk 7 hX (hc := by cases f <;> kernel_rfl) (k := ?_)
    refine tk 8 hX (hc := by cases f <;> kernel_rfl) (k := ?_)
    refine tk 9 hX (hc := by cases f <;> kernel_rfl) (k := ?_)
    apply xa_pendE 10 (f := f) (X := X) hX hp; exact rfl; (first | (apply makes_alloc tabOk; exact rfl) | (apply makes_slice tabOk; exact rfl; exact rfl; exact rfl; exact rfl; exact rfl; (intro X; ((repeat (first | exact Bld.nil | (apply Bld.one; exact rfl; (conv => lhs; whnf); exact rfl; (repeat (first | exact PutL.nil | apply PutL.skip | apply PutL.cons))) | (apply Bld.agg; exact rfl; exact rfl; exact rfl; (repeat (first | exact PutL.nil | apply PutL.skip | apply PutL.cons))))))))); kernel_rfl; kernel_rfl; (intro X Y; (repeat (first | exact pgg_base | refine pgg_step ?_ (by exact rfl)))); (intro w' hs; ((first | exact se_hold hs.hold | exact se_hold (hold_sim hs.hold rfl) | exact se_hold (hold_sim hs.hold.tail rfl) | exact se_hold (hR hs rfl) | exact se_hold hs.hold.tail | exact se_hold hs.hold.tail.tail | exact se_hold hs.hold.tail.tail.tail | exact se_done rfl))); intro b w hI hs
    refine dt 11 hX (k := ?_)
    repeat' (first|(refine stA hs (k:=?_);intro w hs)|refine Nx.h ?_|fail)
    refine dn (k := ?_)
    refine tk 12 hX (k := ?_)
    refine en (k := ?_)
    repeat' (first|refine vs (k:=?_)|(refine stA hs (k:=?_);intro w hs)|refine qRg ?_|refine Nx.h ?_|fail)
    first | refine rt (hq := ?_) | refine rt' (hq := ?_)
    exact ⟨rfl, hs.onlyF [] (by simp [h1]) (by simp [D0])⟩
abbrev qptrO (qb : Nat) : Obj := .cells #[.pointer (some ⟨qb, 0, none⟩)] 46 (0, 0)
theorem qelig_ret (qb tb mb bb : Nat) (m : Mn) (c : Int) (a : IT) (w0 : World) (hm : m.In) (h1 : w0.heap[qb]? = some (queueO m tb mb c)) (h2 : w0.heap[bb]? = some (qptrO qb)) : Ret Tryz.prog 76 #[iv a.1, .pointer (some ⟨bb, 0, none⟩)] w0 fun v w' => v = .bool (elig m a.1.p) ∧ Only [] w0 w' := by
  have n1 := blocks_ne h2 h1 (by decide)
  have hs := ((St.nil w0).track h1 (by simp)).track h2 (by simpa using n1)
  refine ret_of_xc Tryz.func76 (by kernel_rfl) rfl Tryz.ntmps76 rfl rfl rfl ?_; refine xc_seq ?_; refine xc_region ?_ ?_; exact rfl; refine bx hs (k := ?_); intro bq wq hzq hs; repeat' (first|refine vs (k:=?_)|refine Nx.h ?_|fail)
  refine dr [] hs (k := ?_); intro hX w hs
  refine tk 0 hX (k := ?_)
  refine tk 1 hX (k := ?_)
  refine tk 2 hX (k := ?_)
  refine tk 3 hX (k := ?_)
  refine tk 4 hX (k := ?_)
  refine tk 5 hX (k := ?_)
  refine dt 6 hX (k := ?_)
  (with_reducible apply xs_call); exact rfl; exact rfl; exact elig_ret m a.1.p hm a.2.1 _
  rintro v w' ⟨rfl, ho⟩; replace hs := hs.call0 ho; repeat' (first|refine Nx.h ?_|fail)
  refine dn (k := ?_)
  refine tk 7 hX (k := ?_)
  refine en (k := ?_)
  repeat' (first|refine Nx.h ?_|fail)
  first | refine rt (hq := ?_) | refine rt' (hq := ?_)
  exact ⟨rfl, hs.onlyF [] (by simp [h1, h2]) (by simp [D0])⟩
def soonQ (s : Qs) : Option IT := IB.foldT (fun a => elig s.m a.1.p) s.t none
set_option maxHeartbeats 4000000 in
theorem qsoonest_ret (qb : Nat) (s : Qs) (F : List Nat) (w0 : World) (h : QAt w0 qb s F) : Ret Tryz.prog 28 #[.pointer (some ⟨qb, 0, none⟩)] w0 fun v w' => v = .tuple #[iv (IB.valO (soonQ s)), .bool (soonQ s).isSome] ∧ Only [] w0 w' := by
  obtain ⟨tb, mb, Ft, rfl, h1, h2, h3, h4, h5⟩ := h
  have hs := (St.nil w0).track h1 (by simp)
  refine ret_of_xc Tryz.func28 (by kernel_rfl) rfl Tryz.ntmps28 rfl rfl rfl ?_
  refine xc_seq ?_
  refine xc_region ?_ ?_; exact rfl
  refine bx hs (k := ?_); intro bb w hz hs
  refine al hs (k := ?_); intro b2 w hz hs
  repeat' (first|refine vs (k:=?_)|refine qRg ?_|refine Nx.h ?_|refine qCf ?_|fail)
  have ho := hs.onlyF [] (by simp [h1]) (by simp [D0])
  have hq := hs.get (At.tail (At.tail At.head))
  have hb := hs.get (At.tail At.head)
  (with_reducible apply xs_call); exact rfl; exact rfl; exact IB.dsoonest_ret tb s.t Ft _ (h3.only ho) 76 [.pointer (some ⟨bb, 0, none⟩)] (fun a => elig s.m a.1.p) (fun y w _ hw => qelig_ret qb tb mb bb s.m s.c y w h4 (hw.block hq (by simp)) (hw.block hb (by simp)))
  rintro v w' ⟨rfl, ho⟩; replace hs := hs.call0 ho; repeat' (first|refine vs (k:=?_)|(refine stA hs (k:=?_);intro w hs)|refine Nx.h ?_|fail)
  first | refine rt (hq := ?_) | refine rt' (hq := ?_)
  exact ⟨rfl, hs.onlyF [] (by simp [h1]) (by simp [D0])⟩
end Go.Proofs.YtilajmcellffiaaGreatDoorX

namespace Go.Proofs.YtilajmcellffiaaGreatDoorX
open Go Go.RowKit
attribute [local irreducible] XS XC XA thenE blockE retE loopE loopS cutB cutN doneE SE
def within (base : Int) (l : List It) : Bool := decide (spr base l ≤ 4611686018427387904)
theorem within_ret (base : Int) (l : List It) (sl : Value) (hm : l.length ≤ 1000000) (w0 : World) (hP : ItsAt w0 sl l) :
    Ret Tryz.prog 104 #[.int .u64 base, sl] w0 fun v w' => v = .bool (within base l) ∧ Only [] w0 w' := by
  obtain ⟨ad, cap, rfl, hD⟩ := id hP
  have hs := St.nil w0
  refine ret_of_xc Tryz.func104 (by kernel_rfl) rfl Tryz.ntmps104 rfl rfl rfl ?_
  repeat' (first|refine vs (k:=?_)|refine qRg ?_|refine Nx.h ?_|fail)
  (with_reducible apply xs_call); exact rfl; exact rfl; exact spread_ret base l _ hm _ (hP.only (hs.only0 rfl))
  rintro v w' ⟨rfl, ho⟩; replace hs := hs.call0 ho; repeat' (first|refine vs (k:=?_)|refine Nx.h ?_|fail)
  first | refine rt (hq := ?_) | refine rt' (hq := ?_)
  exact ⟨rfl, hs.only0 rfl⟩
theorem room0_ret (w0 : World) : Ret Tryz.prog 243 #[.int .u64 0, .slice none 0 0] w0 fun v w' => v = .int .u64 4611686018427387904 ∧ Only [] w0 w' := by
  have hs := St.nil w0
  refine ret_of_xc Tryz.func243 (by kernel_rfl) rfl Tryz.ntmps243 rfl rfl rfl ?_
  repeat' (first|refine vs (k:=?_)|refine qRg ?_|refine Nx.h ?_|fail)
  (with_reducible apply xs_call); exact rfl; exact rfl; exact within_ret 0 [] _ (by simp) _ (LsAt.nil _ _ _)
  rw [show within 0 [] = true from by decide]
  rintro v w' ⟨rfl, ho⟩; replace hs := hs.call0 ho; repeat' (first|refine vs (k:=?_)|refine qRg ?_|refine Nx.h ?_|refine qCf ?_|fail)
  (with_reducible apply xs_call); exact rfl; exact rfl; exact spread_ret 0 [] _ (by simp) _ (LsAt.nil _ _ _)
  rw [show spr 0 [] = 0 from by decide]
  rintro v w' ⟨rfl, ho⟩; replace hs := hs.call0 ho; repeat' (first|refine vs (k:=?_)|refine Nx.h ?_|fail)
  first | refine rt (hq := ?_) | refine rt' (hq := ?_)
  exact ⟨rfl, hs.only0 rfl⟩
end Go.Proofs.YtilajmcellffiaaGreatDoorX

namespace Go.Proofs.YtilajmcellffiaaGreatDoorX
open Go Go.RowKit
open IB (IT ITsAt flatT)
attribute [local irreducible] XS XC XA thenE blockE retE loopE loopS cutB cutN doneE SE
def baseQ (s : Qs) (a : IT) : Int := bif decide (s.t.list.length = 0) then a.1.p.t else nowQ s
def plain (l : List IT) : List It := l.map (·.1)
def joinE (s : Qs) (a : IT) : Int :=
  bif !a.1.right then 2 else bif (s.f a.1.id).isSome then 13 else bif decide (s.t.list.length = 32) then 7 else bif !within (baseQ s a) (plain (s.t.list ++ [a])) then 8 else 0
def joinQ (s : Qs) (a : IT) : Qs := bif decide (joinE s a = 0) then putQ s a else s
set_option maxHeartbeats 4000000 in
theorem qjoin_ret (qb : Nat) (s : Qs) (F : List Nat) (a : IT) (w0 : World) (h : QAt w0 qb s F) (hlen : s.t.list.length + 1 ≤ 1000000) (hn : s.n < 1000000) :
    Ret Tryz.prog 64 #[.pointer (some ⟨qb, 0, none⟩), iv a.1] w0 fun v w' => v = .int .i64 (joinE s a) ∧ ∃ F', QAt w' qb (joinQ s a) F' ∧ (∀ k ∈ F', k ∈ F ∨ w0.heap.size ≤ k) ∧ Only F w0 w' := by
  have hq := h
  obtain ⟨tb, mb, Ft, rfl, h1, h2, h3, h4, h5⟩ := h
  have hs := (St.nil w0).track h1 (by simp)
  have same : ∀ w', Only [] w0 w' → ∃ F', QAt w' qb s F' ∧ (∀ k ∈ F', k ∈ qb :: mb :: Ft ∨ w0.heap.size ≤ k) ∧ Only (qb :: mb :: Ft) w0 w' := fun w' ho => ⟨_, hq.only ho, fun k hk => .inl hk, ho.weaken (by simp)⟩
  refine ret_of_xc Tryz.func64 (by kernel_rfl) rfl Tryz.ntmps64 rfl rfl rfl ?_; refine xc_seq ?_; refine xc_region ?_ ?_; exact rfl; refine bx hs (k := ?_); intro bq wq hzq hs; repeat' (first|refine vs (k:=?_)|refine qRg ?_|refine Nx.h ?_|refine qCf ?_|fail)
  have hbq := hs.new (bq, true) (by simp) rfl
  simp only at hbq
  have ho := hs.onlyF [] (by simp [h1]) (by simp [D0])
  (with_reducible apply xs_call); exact rfl; exact rfl; exact qnow_ret qb s _ _ (hq.only ho)
  rintro v w' ⟨rfl, ho⟩; replace hs := hs.call0 ho
  refine vs (k := ?_)
  refine XS.nil ?_
  refine then_of ?_
  refine xc_seq ?_
  refine xc_cutN (fun _ : Unit => [(0, .pointer (some ⟨qb, 0, none⟩)), (3, .pointer (some ⟨bq, 0, none⟩)), (4, .int .i64 0), (5, .int .u64 (baseQ s a))]) (fun _ w => St w0 D0 [(bq, itQ a.1, true), (qb, queueO s.m tb mb s.c, false)] w) ?_ ?_
  · repeat' (first|refine vs (k:=?_)|refine qRg ?_|refine Nx.h ?_|fail)
    have ho := hs.onlyF [] (by simp [h1]) (by simp [D0])
    (with_reducible apply xs_call); exact rfl; exact rfl; exact qlen_ret qb s _ _ (hq.only ho)
    rintro v w' ⟨rfl, ho⟩; replace hs := hs.call0 ho; repeat' (first|refine vs (k:=?_)|refine qRg ?_|refine Nx.h ?_|(refine xc_if rfl (fun hc=>?_) (fun hc=>?_))|fail)
    · have e : baseQ s a = a.1.p.t := by unfold baseQ; rw [decide_eq_true (show s.t.list.length = 0 by omega)]; rfl
      rw [e]
      exact cutN_normal () (by (repeat (first | exact agree_nil | (apply agree_cons; exact rfl)))) hs
    · have e : baseQ s a = nowQ s := by unfold baseQ; rw [decide_eq_false (show ¬ s.t.list.length = 0 by omega)]; rfl
      rw [e]
      exact cutN_normal () (by (repeat (first | exact agree_nil | (apply agree_cons; exact rfl)))) hs
  clear hs ho
  rintro _ env w hs
  repeat' (first|refine Nx.h ?_|fail)
  refine dr [] hs (k := ?_); intro hX w hs
  refine tk 0 hX (k := ?_)
  refine tk 1 hX (k := ?_)
  refine tk 2 hX (k := ?_)
  refine tk 3 hX (k := ?_)
  refine tk 4 hX (k := ?_)
  refine tk 5 hX (k := ?_)
  refine pd0 10 6 hs (k := ?_); intro f X w hp; have hs := hp.st
  apply xa_pend 6 10 (f := f) (X := X) hX hp; exact rfl; exact rfl; (first | (apply makes_alloc tabOk; exact rfl) | (apply makes_slice tabOk; exact rfl; exact rfl; exact rfl; exact rfl; exact rfl; (intro X; ((repeat (first | exact Bld.nil | (apply Bld.one; exact rfl; (conv => lhs; whnf); exact rfl; (repeat (first | exact PutL.nil | apply PutL.skip | apply PutL.cons))) | (apply Bld.agg; exact rfl; exact rfl; exact rfl; (repeat (first | exact PutL.nil | apply PutL.skip | apply PutL.cons))))))))); kernel_rfl; kernel_rfl; kernel_rfl; kernel_rfl; (intro X Y; (repeat (first | exact pgg_base | refine pgg_step ?_ (by exact rfl)))); (intro w' hs; ((first | exact se_hold hs.hold | exact se_hold (hold_sim hs.hold rfl) | exact se_hold (hold_sim hs.hold.tail rfl) | exact se_hold (hR hs rfl) | exact se_hold hs.hold.tail | exact se_hold hs.hold.tail.tail | exact se_hold hs.hold.tail.tail.tail | exact se_done rfl))); intro f X w hp; have hs := hp.st
  have ho := hs.onlyF [] (by simp [h1]) (by simp [D0])
  refine xs_look (e := 29) (z := iv .zero) (h2.keep ho (by simp)) a.2.2.1 (by kernel_rfl) (by kernel_rfl) (k := ?_)
  rw [vals_get, vals_isSome]
  generalize hx : (match s.f a.1.id with | some a => a.1 | none => It.zero) = x
  repeat' (first|refine Nx.h ?_|fail)
  refine dn (k := ?_)
  refine tk 7 hX (hc := by cases f <;> kernel_rfl) (k := ?_)
  refine tk 8 hX (hc := by cases f <;> kernel_rfl) (k := ?_)
  refine tk 9 hX (hc := by cases f <;> kernel_rfl) (k := ?_)
  apply xa_pendE 10 (f := f) (X := X) hX hp; exact rfl; (first | (apply makes_alloc tabOk; exact rfl) | (apply makes_slice tabOk; exact rfl; exact rfl; exact rfl; exact rfl; exact rfl; (intro X; ((repeat (first | exact Bld.nil | (apply Bld.one; exact rfl; (conv => lhs; whnf); exact rfl; (repeat (first | exact PutL.nil | apply PutL.skip | apply PutL.cons))) | (apply Bld.agg; exact rfl; exact rfl; exact rfl; (repeat (first | exact PutL.nil | apply PutL.skip | apply PutL.cons))))))))); kernel_rfl; kernel_rfl; (intro X Y; (repeat (first | exact pgg_base | refine pgg_step ?_ (by exact rfl)))); (intro w' hs; ((first | exact se_hold hs.hold | exact se_hold (hold_sim hs.hold rfl) | exact se_hold (hold_sim hs.hold.tail rfl) | exact se_hold (hR hs rfl) | exact se_hold hs.hold.tail | exact se_hold hs.hold.tail.tail | exact se_hold hs.hold.tail.tail.tail | exact se_done rfl))); intro b w hI hs
  refine dt 11 hX (k := ?_)
  repeat' (first|(refine stA hs (k:=?_);intro w hs)|refine Nx.h ?_|fail)
  refine dn (k := ?_)
  refine tk 12 hX (k := ?_)
  refine en (k := ?_)
  replace hs := hs.forgetNew
  repeat' (first|refine vs (k:=?_)|refine qRg ?_|refine Nx.h ?_|fail)
  (with_reducible apply xs_call); exact rfl; exact rfl; exact iright_ret a.1 _
  rintro v w' ⟨rfl, ho⟩; replace hs := hs.call0 ho; repeat' (first|refine vs (k:=?_)|refine qRg ?_|refine Nx.h ?_|(refine xc_cond rfl (fun hc=>?_) (fun hc=>?_))|fail)
  · first | refine rt (hq := ?_) | refine rt' (hq := ?_)
    have ho := hs.onlyF [] (by simp [h1]) (by simp [D0])
    have e : joinE s a = 2 := by unfold joinE; rw [show (!a.1.right) = true by simpa using hc]; rfl
    refine ⟨by rw [e]; rfl, ?_⟩
    unfold joinQ; rw [e]
    exact same _ ho
  · first | refine rt (hq := ?_) | refine rt' (hq := ?_)
    have ho := hs.onlyF [] (by simp [h1]) (by simp [D0])
    have e : joinE s a = 13 := by unfold joinE; rw [show (!a.1.right) = false by assumption, hc]; rfl
    refine ⟨by rw [e]; rfl, ?_⟩
    unfold joinQ; rw [e]
    exact same _ ho
  · have r1 : (!a.1.right) = false := by assumption
    have r2 : (s.f a.1.id).isSome = false := by simpa using hc
    have ho := hs.onlyF [] (by simp [h1]) (by simp [D0])
    (with_reducible apply xs_call); exact rfl; exact rfl; exact qlen_ret qb s _ _ (hq.only ho)
    rintro v w' ⟨rfl, ho⟩; replace hs := hs.call0 ho; repeat' (first|refine vs (k:=?_)|refine qRg ?_|refine Nx.h ?_|(refine xc_if rfl (fun hc=>?_) (fun hc=>?_))|fail)
    · first | refine rt (hq := ?_) | refine rt' (hq := ?_)
      have ho := hs.onlyF [] (by simp [h1]) (by simp [D0])
      have e : joinE s a = 7 := by unfold joinE; rw [r1, r2, decide_eq_true (show s.t.list.length = 32 by omega)]; rfl
      refine ⟨by rw [e]; rfl, ?_⟩
      unfold joinQ; rw [e]
      exact same _ ho
    · have r3 : ¬ s.t.list.length = 32 := by omega
      refine dr [] hs (k := ?_); intro hX w hs
      refine tk 0 hX (k := ?_)
      refine tk 1 hX (k := ?_)
      refine tk 3 hX (k := ?_)
      refine pd0S 4 43 a.1.cells hs (k := ?_); intro f X w hp; have hs := hp.st
      apply xa_pend 2 4 (f := f) (X := X) hX hp; exact rfl; exact rfl; (first | (apply makes_alloc tabOk; exact rfl) | (apply makes_slice tabOk; exact rfl; exact rfl; exact rfl; exact rfl; exact rfl; (intro X; ((repeat (first | exact Bld.nil | (apply Bld.one; exact rfl; (conv => lhs; whnf); exact rfl; (repeat (first | exact PutL.nil | apply PutL.skip | apply PutL.cons))) | (apply Bld.agg; exact rfl; exact rfl; exact rfl; (repeat (first | exact PutL.nil | apply PutL.skip | apply PutL.cons))))))))); kernel_rfl; kernel_rfl; kernel_rfl; kernel_rfl; (intro X Y; (repeat (first | exact pgg_base | refine pgg_step ?_ (by exact rfl)))); (intro w' hs; ((first | exact se_hold hs.hold | exact se_hold (hold_sim hs.hold rfl) | exact se_hold (hold_sim hs.hold.tail rfl) | exact se_hold (hR hs rfl) | exact se_hold hs.hold.tail | exact se_hold hs.hold.tail.tail | exact se_hold hs.hold.tail.tail.tail | exact se_done rfl))); intro f X w hp; have hs := hp.st
      have ho := hs.onlyF [] (by simp [h1]) (by simp [D0])
      have hbl := lt_of_block (hs.get At.head)
      (with_reducible apply xs_call); exact rfl; exact rfl; exact qitems_ret qb s _ _ (hq.only ho) (by omega)
      rintro v1 w1 ⟨⟨G, hG, hGn⟩, ho1⟩
      have hz := ho.size
      replace hp := (⟨hp.core.only ho1, hG, fun _ _ ho h => h.keep ho (by simp)⟩ : Pend w0 D0 _ _ _ (fun w => SlV w 29 7 v1 s.t.list.length (flatT s.t.list) G) _ _ _)
      replace hs := hp.st
      have hGn' : ∀ k ∈ G, w0.heap.size ≤ k := fun k hk => by have := hGn k hk; omega
      repeat' (first|refine Nx.h ?_|fail)
      refine dn (k := ?_)
      apply xa_pendE 4 (f := f) (X := X) hX hp; exact rfl; (first | (apply makes_alloc tabOk; exact rfl) | (apply makes_slice tabOk; exact rfl; exact rfl; exact rfl; exact rfl; exact rfl; (intro X; ((repeat (first | exact Bld.nil | (apply Bld.one; exact rfl; (conv => lhs; whnf); exact rfl; (repeat (first | exact PutL.nil | apply PutL.skip | apply PutL.cons))) | (apply Bld.agg; exact rfl; exact rfl; exact rfl; (repeat (first | exact PutL.nil | apply PutL.skip | apply PutL.cons))))))))); kernel_rfl; kernel_rfl; (intro X Y; (repeat (first | exact pgg_base | refine pgg_step ?_ (by exact rfl)))); (intro w' hs; ((first | exact se_hold hs.hold | exact se_hold (hold_sim hs.hold rfl) | exact se_hold (hold_sim hs.hold.tail rfl) | exact se_hold (hR hs rfl) | exact se_hold hs.hold.tail | exact se_hold hs.hold.tail.tail | exact se_hold hs.hold.tail.tail.tail | exact se_done rfl))); intro b w hI hs
      refine dt 5 hX (k := ?_)
      have hb4 := hs.get At.head
      have ho2 := hs.onlyF [] (by simp [h1]) (by simp [D0])
      refine xs_appendW tabOk rfl rfl rfl rfl rfl rfl rfl (by decide) (lit_cells (news := a.1.cells) hb4) (by simp [Value.oneCell']) hI (by omega) (by omega) ?_
      intro v2 w2 ⟨G', hG2, hG2'⟩ ho3
      have hbG : bq ∉ G := fun hm => by have := hGn bq hm; omega
      have hqG : qb ∉ G := IB.slv_not hI (by decide) (hs.get (At.tail (At.tail At.head)))
      replace hs := hs.forgetNew.call ho3 (fun k hk hm => by
        simp only [List.map_cons, List.map_nil, List.mem_cons, List.not_mem_nil, or_false] at hm
        rcases hm with rfl | rfl
        · exact hbG hk
        · exact hqG hk) (by simp [D0])
      have hoo : Only [] w0 w2 := (hs.onlyF (G ++ []) (by simp [h1]) (by simp [D0])).mono (fun k hk hm => by
        rw [List.append_nil] at hm
        have := hGn' k hm
        omega)
      have hL : ItsAt w2 v2 (plain (s.t.list ++ [a])) := IB.its_of (G := G') (by
        rw [IB.flatT_app, List.length_append]
        exact hG2)
      repeat' (first|refine Nx.h ?_|fail)
      refine dn (k := ?_)
      refine dt 6 hX (k := ?_)
      (with_reducible apply xs_call); exact rfl; exact rfl; exact within_ret (baseQ s a) (plain (s.t.list ++ [a])) v2 (by simp [plain]; omega) _ hL
      generalize hwi : within (baseQ s a) (plain (s.t.list ++ [a])) = wi
      rintro v3 w3 ⟨rfl, ho4⟩; replace hs := hs.call0 ho4
      have hoo3 := hoo.trans ho4
      repeat' (first|refine Nx.h ?_|fail)
      refine dn (k := ?_)
      refine tk 7 hX (k := ?_)
      refine tk 8 hX (k := ?_)
      refine en (k := ?_)
      cases wi
      · repeat' (first|refine vs (k:=?_)|refine qRg ?_|refine Nx.h ?_|refine qCt ?_|fail)
        first | refine rt (hq := ?_) | refine rt' (hq := ?_)
        have e : joinE s a = 8 := by unfold joinE; rw [r1, r2, decide_eq_false r3, hwi]; rfl
        refine ⟨by rw [e]; rfl, ?_⟩
        unfold joinQ; rw [e]
        exact same _ hoo3
      · have e : joinE s a = 0 := by unfold joinE; rw [r1, r2, decide_eq_false r3, hwi]; rfl
        repeat' (first|refine vs (k:=?_)|refine qRg ?_|refine Nx.h ?_|refine qCf ?_|fail)
        (with_reducible apply xs_call); exact rfl; exact rfl; exact qput_ret qb s _ a _ (hq.only hoo3) hlen hn
        rintro v w5 ⟨F', hA, hF', ho5⟩
        have hz5 := hoo3.size
        clear hs
        have hs := St.nil w5
        repeat' (first|refine vs (k:=?_)|refine qRg ?_|refine Nx.h ?_|fail)
        first | refine rt (hq := ?_) | refine rt' (hq := ?_)
        refine ⟨by rw [e]; rfl, ?_⟩
        unfold joinQ; rw [e]
        exact ⟨F', hA.only (hs.only0 rfl), fun k hk => by rcases hF' k hk with h | h; exact .inl h; exact .inr (by omega), ((hoo3.weaken (by simp)).step ho5 (fun k hk => .inl hk)).step (hs.only0 rfl) (by simp)⟩
end Go.Proofs.YtilajmcellffiaaGreatDoorX

namespace Go.Proofs.YtilajmcellffiaaGreatDoorX
open Go Go.RowKit
attribute [local irreducible] XS XC XA thenE blockE retE loopE loopS cutB cutN doneE SE
def WAt (w : World) (sl : Value) (xs : List Int) : Prop :=
  ∃ ad cap, sl = .slice ad xs.length cap ∧ (xs ≠ [] → ∃ (b off : Nat) (cs : List Value) (E : TypeId) (fz : Nat × Nat), ad = some ⟨b, off, none⟩ ∧ w.heap[b]? = some (.cells cs.toArray E fz) ∧
    ∀ (i : Nat) (x : Int), xs[i]? = some x → cs[off + i * 2]? = some (.int .i64 (x / 18446744073709551616)) ∧ cs[off + i * 2 + 1]? = some (.int .u64 (x % 18446744073709551616)))
theorem WAt.only {w w' : World} {sl : Value} {xs : List Int} (h : WAt w sl xs) (ho : Only [] w w') : WAt w' sl xs := by
  obtain ⟨ad, cap, rfl, h⟩ := h
  refine ⟨ad, cap, rfl, fun hn => ?_⟩
  obtain ⟨b, off, cs, E, fz, h1, h2, h3⟩ := h hn
  exact ⟨b, off, cs, E, fz, h1, ho.block h2 (by simp), h3⟩
def psum (xs : List Int) (i : Nat) : Int := (xs.take i).sum
theorem psum_succ {xs : List Int} {i : Nat} {x : Int} (h : xs[i]? = some x) : psum xs (i + 1) = psum xs i + x := by
  unfold psum
  rw [List.take_add_one, h, List.sum_append]
  simp
theorem psum_zero (xs : List Int) : psum xs 0 = 0 := by simp [psum]
theorem inW_zero : InW 0 := by unfold InW; omega
def InAll (xs : List Int) (n : Nat) : Prop := ∀ j, j ≤ n → InW (psum xs j)
theorem InAll.zero (xs : List Int) : InAll xs 0 := fun j hj => by
  have h0 : j = 0 := Nat.le_zero.1 hj
  rw [h0, psum_zero]
  exact inW_zero
theorem InAll.succ {xs : List Int} {n : Nat} (h : InAll xs n) (h1 : InW (psum xs (n + 1))) : InAll xs (n + 1) := fun j hj => by
  rcases Nat.lt_or_ge n j with h2 | h2
  · obtain rfl : j = n + 1 := by omega
    exact h1
  · exact h j h2
theorem next64 {i m : Nat} (h : i < m) (hm : m ≤ 9223372036854775807) : IntKind.i64.wrap ((i : Int) + 1) = ((i + 1 : Nat) : Int) := by
  rw [wrap_i64]; omega
theorem sum_ret (xs : List Int) (sl : Value) (hin : ∀ (i : Nat) (x : Int), xs[i]? = some x → InW x) (hm : xs.length ≤ 9223372036854775807) (w0 : World) (hW : WAt w0 sl xs) : Ret Tryz.prog 236 #[sl] w0 fun v w' =>
    (InAll xs xs.length ∧ v = .tuple #[wv (psum xs xs.length), .bool true] ∨ (∃ j, j ≤ xs.length ∧ ¬ InW (psum xs j)) ∧ v = .tuple #[wv 0, .bool false]) ∧ Only [] w0 w' := by
  obtain ⟨ad, cap, rfl, hD⟩ := hW
  have hs := St.nil w0
  refine ret_of_xc Tryz.func236 (by kernel_rfl) rfl Tryz.ntmps236 rfl rfl rfl ?_
  refine xc_seq ?_
  refine xc_region ?_ ?_; exact rfl
  refine al hs (k := ?_); intro b2 w hz hs
  refine vs (k := ?_)
  refine XS.nil ?_
  refine then_of ?_
  refine xc_seq ?_
  refine xc_region ?_ ?_; exact rfl
  refine al hs (k := ?_); intro b4 w hz hs
  repeat' (first|refine vs (k:=?_)|refine qRg ?_|refine Nx.h ?_|fail)
  refine xc_cutB (fun (_ : Unit) => [(2, .pointer (some ⟨b2, 0, none⟩)), (4, .pointer (some ⟨b4, 0, none⟩))])
    (fun _ w => InAll xs xs.length ∧ St w0 D0 [(b4, .cells #[.int .i64 (psum xs xs.length / 18446744073709551616), .int .u64 (psum xs xs.length % 18446744073709551616)] 61, true), (b2, .cells #[.int .i64 0, .int .u64 0] 61, true)] w) ?_ ?_
  · refine xc_loopS (fun (i : Nat) => [(2, .pointer (some ⟨b2, 0, none⟩)), (4, .pointer (some ⟨b4, 0, none⟩)), (9, .slice ad xs.length cap), (10, .int .i64 (xs.length : Nat)), (11, .int .i64 (i : Nat))])
      (fun i w => i ≤ xs.length ∧ InAll xs i ∧ St w0 D0 [(b4, .cells #[.int .i64 (psum xs i / 18446744073709551616), .int .u64 (psum xs i % 18446744073709551616)] 61, true), (b2, .cells #[.int .i64 0, .int .u64 0] 61, true)] w)
      (fun i => xs.length - i) 0 (by (repeat (first | exact agree_nil | (apply agree_cons; exact rfl)))) ⟨Nat.zero_le _, InAll.zero xs, by rw [psum_zero]; exact hs⟩ fun i env w ⟨hi, hf, hs⟩ => ?_
    repeat' (first|refine vs (k:=?_)|refine qRg ?_|refine Nx.h ?_|(refine xc_if rfl (fun hc=>?_) (fun hc=>?_))|fail)
    · have hlt : i < xs.length := by omega
      obtain ⟨b, off, cs, E, fz, rfl, hb, hcs⟩ := hD (fun h => by subst h; cases hlt)
      obtain ⟨h0, h1⟩ := hcs i _ (List.getElem?_eq_getElem hlt)
      have hx := hin i _ (List.getElem?_eq_getElem hlt)
      have hps := psum_succ (List.getElem?_eq_getElem hlt)
      generalize xs[i] = x at *
      refine ix (h0 := (by omega)) (h1 := (by omega)) (k := ?_)
      refine lh2 ((hs.only0 rfl).block hb (by simp)) h0 h1 (k := ?_)
      refine al hs (k := ?_); intro b6 w hz hs
      repeat' (first|refine vs (k:=?_)|(refine stA hs (k:=?_);intro w hs)|refine qRg ?_|refine Nx.h ?_|fail)
      (with_reducible apply xs_call); exact rfl; exact rfl; exact add_ret (psum xs i) x (hf i (Nat.le_refl _)) hx _
      rintro v w' ⟨rfl, ho⟩; replace hs := hs.call0 ho
      rcases tellV_cases (psum xs i + x) with ⟨hin1, e⟩ | ⟨hin1, e⟩
      · rw [e]
        repeat' (first|refine vs (k:=?_)|(refine stA hs (k:=?_);intro w hs)|(refine al hs (k:=?_);intro b w hz hs)|refine qRg ?_|refine Nx.h ?_|refine qCf ?_|fail)
        have ei := next64 hlt hm
        exact loopS_next (i + 1) (by omega) (by (repeat (first | exact agree_nil | (apply agree_cons; first | exact rfl | exact congrArg (Value.int .i64) ei)))) ⟨by omega, hf.succ (by rw [hps]; exact hin1), by rw [hps]; exact hs.forgetNew.forgetNew⟩
      · rw [e]
        repeat' (first|refine vs (k:=?_)|(refine stA hs (k:=?_);intro w hs)|(refine al hs (k:=?_);intro b w hz hs)|refine qRg ?_|refine Nx.h ?_|refine qCt ?_|fail)
        first | refine rt (hq := ?_) | refine rt' (hq := ?_)
        exact ⟨.inr ⟨⟨i + 1, hlt, by rw [hps]; exact hin1⟩, rfl⟩, hs.only0 rfl⟩
    · have e : i = xs.length := by omega
      rw [e] at hf hs
      exact cutB_exit () (by (repeat (first | exact agree_nil | (apply agree_cons; exact rfl)))) ⟨hf, hs⟩
  · rintro _ env w ⟨hf, hs⟩
    repeat' (first|refine vs (k:=?_)|(refine stA hs (k:=?_);intro w hs)|refine qRg ?_|refine Nx.h ?_|fail)
    first | refine rt (hq := ?_) | refine rt' (hq := ?_)
    exact ⟨.inl ⟨hf, rfl⟩, hs.only0 rfl⟩
end Go.Proofs.YtilajmcellffiaaGreatDoorX
