/- A part of the proof: what its functions compute. -/
import Derived.Test.YtegoaabjccignaaGreatDoorM3
import Derived.Maps.OwnSet
set_option linter.unusedVariables false
set_option linter.unusedSimpArgs false
set_option maxRecDepth 100000
namespace Go.Proofs.YtegoaabjccignaaGreatDoorX
open Go Go.RowKit
attribute [local irreducible] XS XC XA thenE blockE retE loopE loopS cutB cutN doneE SE
structure Rq where
  i : It
  left : Int
  slice : Int
  asleep : Bool
deriving DecidableEq
abbrev Rq.cells (r : Rq) : List Value := [.int .u64 r.i.p.t, .int .u32 r.i.p.r, .int .u32 r.i.p.w, .int .i64 r.i.id, .int .u64 r.i.d.t, .int .u32 r.i.d.r, .int .u32 r.i.d.w, .int .u64 r.left, .int .u64 r.slice, .bool r.asleep]
def rv (r : Rq) : Value := .agg #[.int .u64 r.i.p.t, .int .u32 r.i.p.r, .int .u32 r.i.p.w, .int .i64 r.i.id, .int .u64 r.i.d.t, .int .u32 r.i.d.r, .int .u32 r.i.d.w, .int .u64 r.left, .int .u64 r.slice, .bool r.asleep]
def Rq.In (r : Rq) : Prop := r.i.In ∧ U64 r.left ∧ U64 r.slice
instance decRqIn (r : Rq) : Decidable r.In := by unfold Rq.In; infer_instance
def Rq.zero : Rq := ⟨.zero, 0, 0, false⟩
def mayN (n : Int) : Bool := decide (1 ≤ n) && decide (n ≤ 1099511627776)
theorem mayN_iff {n : Int} : mayN n = true ↔ 1 ≤ n ∧ n ≤ 1099511627776 := by unfold mayN; simp
theorem may_ret (n : Int) (w0 : World) : Ret Tryz.prog 68 #[.int .u64 n] w0 fun v w' => v = .bool (mayN n) ∧ Only [] w0 w' := by
  have hs := St.nil w0
  refine ret_of_xc Tryz.func68 (by kernel_rfl) rfl Tryz.ntmps68 rfl rfl rfl ?_
  repeat' (first|refine vs (k:=?_)|refine ps (k:=?_)|((first|refine st hs (k:=?_)|refine stA hs (k:=?_));intro w hs)|((first|refine al hs (k:=?_)|refine bx hs (k:=?_)|refine bs hs (k:=?_));intro b w hz hs)|refine qRg ?_|refine Nx.h ?_|refine qBo ?_|refine qCt ?_|refine qCf ?_|((with_reducible apply xs_guard);exact rfl;exact rfl;intro c hc;(fail_if_success have:true=c:=hc);(fail_if_success have:false=c:=hc);cases c)|(refine xc_if rfl (fun hc=>?_) (fun hc=>?_))|(refine xc_cond rfl (fun hc=>?_) (fun hc=>?_)))
  all_goals (first | refine rt (hq := ?_) | refine rt' (hq := ?_))
  all_goals refine ⟨?_, hs.only0 rfl⟩
  all_goals clear hs
  · have h1 : decide (1 ≤ n) = false := hc
    unfold mayN; rw [h1]; rfl
  · have h1 : decide (1 ≤ n) = true := hc
    unfold mayN; rw [h1]; rfl
def dueP (p : Pt) (n : Int) : Pt := (movP p (n * 1048576)).getD .zero
theorem ptD_in {o : Option Pt} (h : ∀ p, o = some p → p.In) : (o.getD .zero).In := by
  cases o with
  | none => decide
  | some p => exact h p rfl
theorem dueP_in (p : Pt) (n : Int) : (dueP p n).In := ptD_in fun q h => (at_some h).1
theorem rdue_ret (p : Pt) (n : Int) (hp' : p.In) (h0 : 0 ≤ n) (h1 : n ≤ 1099511627776) (w0 : World) : Ret Tryz.prog 69 #[pv p, .int .u64 n] w0 fun v w' => v = pv (dueP p n) ∧ Only [] w0 w' := by
  have e : IntKind.u64.wrap (n * 1048576) = n * 1048576 := by rw [wrap_u64]; omega
  have hs := St.nil w0
  refine ret_of_xc Tryz.func69 (by kernel_rfl) rfl Tryz.ntmps69 rfl rfl rfl ?_
  repeat' (first|refine vs (k:=?_)|refine ps (k:=?_)|((first|refine st hs (k:=?_)|refine stA hs (k:=?_));intro w hs)|((first|refine al hs (k:=?_)|refine bx hs (k:=?_)|refine bs hs (k:=?_));intro b w hz hs)|refine qRg ?_|refine Nx.h ?_|refine qBo ?_|refine qCt ?_|refine qCf ?_|((with_reducible apply xs_guard);exact rfl;exact rfl;intro c hc;(fail_if_success have:true=c:=hc);(fail_if_success have:false=c:=hc);cases c)|(refine xc_if rfl (fun hc=>?_) (fun hc=>?_))|(refine xc_cond rfl (fun hc=>?_) (fun hc=>?_)))
  (with_reducible apply xs_call); exact rfl; exact rfl; exact move_ret p (IntKind.u64.wrap (n * 1048576)) hp' (by rw [e]; exact ⟨by omega, by omega⟩) _
  rw [e]
  rintro v w' ⟨rfl, ho⟩; replace hs := hs.call0 ho; repeat' (first|refine vs (k:=?_)|refine ps (k:=?_)|((first|refine st hs (k:=?_)|refine stA hs (k:=?_));intro w hs)|((first|refine al hs (k:=?_)|refine bx hs (k:=?_)|refine bs hs (k:=?_));intro b w hz hs)|refine qRg ?_|refine Nx.h ?_|refine qBo ?_|refine qCt ?_|refine qCf ?_|((with_reducible apply xs_guard);exact rfl;exact rfl;intro c hc;(fail_if_success have:true=c:=hc);(fail_if_success have:false=c:=hc);cases c)|(refine xc_if rfl (fun hc=>?_) (fun hc=>?_))|(refine xc_cond rfl (fun hc=>?_) (fun hc=>?_)))
  first | refine rt (hq := ?_) | refine rt' (hq := ?_)
  exact ⟨rfl, hs.only0 rfl⟩
def Rq.right (r : Rq) : Bool := r.i.right && mayN r.left && mayN r.slice && decide (dueP r.i.p r.left = r.i.d)
theorem eqPt (p q : Pt) : (cellEq (.int .u64 p.t) (.int .u64 q.t) && (cellEq (.int .u32 p.r) (.int .u32 q.r) && cellEq (.int .u32 p.w) (.int .u32 q.w))) = decide (p = q) := by
  show ((p.t == q.t) && ((p.r == q.r) && (p.w == q.w))) = _
  obtain ⟨a, b, c⟩ := p
  obtain ⟨a', b', c'⟩ := q
  simp only [Pt.mk.injEq]
  by_cases h1 : a = a' <;> by_cases h2 : b = b' <;> by_cases h3 : c = c' <;> simp [h1, h2, h3]
set_option maxHeartbeats 4000000 in
theorem rright_ret (r : Rq) (hr : r.In) (w0 : World) : Ret Tryz.prog 48 #[rv r] w0 fun v w' => v = .bool r.right ∧ Only [] w0 w' := by
  have hs := St.nil w0
  refine ret_of_xc Tryz.func48 (by kernel_rfl) rfl Tryz.ntmps48 rfl rfl rfl ?_
  repeat' (first|refine vs (k:=?_)|refine ps (k:=?_)|((first|refine st hs (k:=?_)|refine stA hs (k:=?_));intro w hs)|((first|refine al hs (k:=?_)|refine bx hs (k:=?_)|refine bs hs (k:=?_));intro b w hz hs)|refine qRg ?_|refine Nx.h ?_|refine qBo ?_|refine qCt ?_|refine qCf ?_|((with_reducible apply xs_guard);exact rfl;exact rfl;intro c hc;(fail_if_success have:true=c:=hc);(fail_if_success have:false=c:=hc);cases c)|(refine xc_if rfl (fun hc=>?_) (fun hc=>?_))|(refine xc_cond rfl (fun hc=>?_) (fun hc=>?_)))
  refine dr [] hs (k := ?_); intro hX w hs
  refine tk 0 hX (k := ?_)
  refine tk 1 hX (k := ?_)
  refine dt 2 hX (k := ?_)
  (with_reducible apply xs_call); exact rfl; exact rfl; exact iright_ret r.i _
  rintro v w' ⟨rfl, ho⟩; replace hs := hs.call0 ho; repeat' (first|refine vs (k:=?_)|refine ps (k:=?_)|((first|refine st hs (k:=?_)|refine stA hs (k:=?_));intro w hs)|((first|refine al hs (k:=?_)|refine bx hs (k:=?_)|refine bs hs (k:=?_));intro b w hz hs)|refine qRg ?_|refine Nx.h ?_|refine qBo ?_|refine qCt ?_|refine qCf ?_|((with_reducible apply xs_guard);exact rfl;exact rfl;intro c hc;(fail_if_success have:true=c:=hc);(fail_if_success have:false=c:=hc);cases c)|(refine xc_if rfl (fun hc=>?_) (fun hc=>?_))|(refine xc_cond rfl (fun hc=>?_) (fun hc=>?_)))
  refine dn (k := ?_)
  refine tk 3 hX (k := ?_)
  refine xa_late 6 rfl ?_; intro c q1; cases c
  · refine pt 4 hX (k := ?_)
    refine pt 5 hX (k := ?_)
    refine pt 6 hX (k := ?_)
    refine tk 7 hX (k := ?_)
    refine tk 8 hX (k := ?_)
    refine pt 9 hX (k := ?_)
    refine pt 10 hX (k := ?_)
    refine pt 11 hX (k := ?_)
    refine tk 12 hX (k := ?_)
    refine tk 13 hX (k := ?_)
    refine pt 14 hX (k := ?_)
    refine pt 15 hX (k := ?_)
    refine pt 16 hX (k := ?_)
    refine pt 17 hX (k := ?_)
    refine pt 18 hX (k := ?_)
    refine pt 19 hX (k := ?_)
    refine pt 20 hX (k := ?_)
    refine pt 21 hX (k := ?_)
    refine pt 22 hX (k := ?_)
    refine pt 23 hX (k := ?_)
    refine tk 24 hX (k := ?_)
    refine tk 25 hX (k := ?_)
    refine en (k := ?_)
    repeat' (first|refine vs (k:=?_)|refine ps (k:=?_)|((first|refine st hs (k:=?_)|refine stA hs (k:=?_));intro w hs)|((first|refine al hs (k:=?_)|refine bx hs (k:=?_)|refine bs hs (k:=?_));intro b w hz hs)|refine qRg ?_|refine Nx.h ?_|refine qBo ?_|refine qCt ?_|refine qCf ?_|((with_reducible apply xs_guard);exact rfl;exact rfl;intro c hc;(fail_if_success have:true=c:=hc);(fail_if_success have:false=c:=hc);cases c)|(refine xc_if rfl (fun hc=>?_) (fun hc=>?_))|(refine xc_cond rfl (fun hc=>?_) (fun hc=>?_)))
    first | refine rt (hq := ?_) | refine rt' (hq := ?_)
    refine ⟨?_, hs.only0 rfl⟩
    unfold Rq.right; rw [q1]; rfl
  · refine tk 4 hX (k := ?_)
    refine tk 5 hX (k := ?_)
    refine dt 6 hX (k := ?_)
    (with_reducible apply xs_call); exact rfl; exact rfl; exact may_ret r.left _
    rintro v w' ⟨rfl, ho⟩; replace hs := hs.call0 ho; repeat' (first|refine vs (k:=?_)|refine ps (k:=?_)|((first|refine st hs (k:=?_)|refine stA hs (k:=?_));intro w hs)|((first|refine al hs (k:=?_)|refine bx hs (k:=?_)|refine bs hs (k:=?_));intro b w hz hs)|refine qRg ?_|refine Nx.h ?_|refine qBo ?_|refine qCt ?_|refine qCf ?_|((with_reducible apply xs_guard);exact rfl;exact rfl;intro c hc;(fail_if_success have:true=c:=hc);(fail_if_success have:false=c:=hc);cases c)|(refine xc_if rfl (fun hc=>?_) (fun hc=>?_))|(refine xc_cond rfl (fun hc=>?_) (fun hc=>?_)))
    refine dn (k := ?_)
    refine tk 7 hX (k := ?_)
    refine tk 8 hX (k := ?_)
    refine xa_late 11 rfl ?_; intro c q2; cases c
    · refine pt 9 hX (k := ?_)
      refine pt 10 hX (k := ?_)
      refine pt 11 hX (k := ?_)
      refine tk 12 hX (k := ?_)
      refine tk 13 hX (k := ?_)
      refine pt 14 hX (k := ?_)
      refine pt 15 hX (k := ?_)
      refine pt 16 hX (k := ?_)
      refine pt 17 hX (k := ?_)
      refine pt 18 hX (k := ?_)
      refine pt 19 hX (k := ?_)
      refine pt 20 hX (k := ?_)
      refine pt 21 hX (k := ?_)
      refine pt 22 hX (k := ?_)
      refine pt 23 hX (k := ?_)
      refine tk 24 hX (k := ?_)
      refine tk 25 hX (k := ?_)
      refine en (k := ?_)
      repeat' (first|refine vs (k:=?_)|refine ps (k:=?_)|((first|refine st hs (k:=?_)|refine stA hs (k:=?_));intro w hs)|((first|refine al hs (k:=?_)|refine bx hs (k:=?_)|refine bs hs (k:=?_));intro b w hz hs)|refine qRg ?_|refine Nx.h ?_|refine qBo ?_|refine qCt ?_|refine qCf ?_|((with_reducible apply xs_guard);exact rfl;exact rfl;intro c hc;(fail_if_success have:true=c:=hc);(fail_if_success have:false=c:=hc);cases c)|(refine xc_if rfl (fun hc=>?_) (fun hc=>?_))|(refine xc_cond rfl (fun hc=>?_) (fun hc=>?_)))
      first | refine rt (hq := ?_) | refine rt' (hq := ?_)
      refine ⟨?_, hs.only0 rfl⟩
      unfold Rq.right; rw [q1, q2]; rfl
    · refine tk 9 hX (k := ?_)
      refine tk 10 hX (k := ?_)
      refine dt 11 hX (k := ?_)
      (with_reducible apply xs_call); exact rfl; exact rfl; exact may_ret r.slice _
      rintro v w' ⟨rfl, ho⟩; replace hs := hs.call0 ho; repeat' (first|refine vs (k:=?_)|refine ps (k:=?_)|((first|refine st hs (k:=?_)|refine stA hs (k:=?_));intro w hs)|((first|refine al hs (k:=?_)|refine bx hs (k:=?_)|refine bs hs (k:=?_));intro b w hz hs)|refine qRg ?_|refine Nx.h ?_|refine qBo ?_|refine qCt ?_|refine qCf ?_|((with_reducible apply xs_guard);exact rfl;exact rfl;intro c hc;(fail_if_success have:true=c:=hc);(fail_if_success have:false=c:=hc);cases c)|(refine xc_if rfl (fun hc=>?_) (fun hc=>?_))|(refine xc_cond rfl (fun hc=>?_) (fun hc=>?_)))
      refine dn (k := ?_)
      refine tk 12 hX (k := ?_)
      refine tk 13 hX (k := ?_)
      refine xa_late 16 rfl ?_; intro c q3; cases c
      · refine pt 14 hX (k := ?_)
        refine pt 15 hX (k := ?_)
        refine pt 16 hX (k := ?_)
        refine pt 17 hX (k := ?_)
        refine pt 18 hX (k := ?_)
        refine pt 19 hX (k := ?_)
        refine pt 20 hX (k := ?_)
        refine pt 21 hX (k := ?_)
        refine pt 22 hX (k := ?_)
        refine pt 23 hX (k := ?_)
        refine tk 24 hX (k := ?_)
        refine tk 25 hX (k := ?_)
        refine en (k := ?_)
        repeat' (first|refine vs (k:=?_)|refine ps (k:=?_)|((first|refine st hs (k:=?_)|refine stA hs (k:=?_));intro w hs)|((first|refine al hs (k:=?_)|refine bx hs (k:=?_)|refine bs hs (k:=?_));intro b w hz hs)|refine qRg ?_|refine Nx.h ?_|refine qBo ?_|refine qCt ?_|refine qCf ?_|((with_reducible apply xs_guard);exact rfl;exact rfl;intro c hc;(fail_if_success have:true=c:=hc);(fail_if_success have:false=c:=hc);cases c)|(refine xc_if rfl (fun hc=>?_) (fun hc=>?_))|(refine xc_cond rfl (fun hc=>?_) (fun hc=>?_)))
        first | refine rt (hq := ?_) | refine rt' (hq := ?_)
        refine ⟨?_, hs.only0 rfl⟩
        unfold Rq.right; rw [q1, q2, q3]; rfl
      · have h2 := mayN_iff.1 q2
        refine tk 14 hX (k := ?_)
        refine tk 15 hX (k := ?_)
        refine tk 16 hX (k := ?_)
        refine tk 17 hX (k := ?_)
        refine tk 18 hX (k := ?_)
        refine tk 20 hX (k := ?_)
        refine tk 21 hX (k := ?_)
        refine tk 22 hX (k := ?_)
        refine dt 19 hX (k := ?_)
        (with_reducible apply xs_call); exact rfl; exact rfl; exact rdue_ret r.i.p r.left hr.1.1 (by omega) h2.2 _
        rintro v w' ⟨rfl, ho⟩; replace hs := hs.call0 ho; repeat' (first|refine vs (k:=?_)|refine ps (k:=?_)|((first|refine st hs (k:=?_)|refine stA hs (k:=?_));intro w hs)|((first|refine al hs (k:=?_)|refine bx hs (k:=?_)|refine bs hs (k:=?_));intro b w hz hs)|refine qRg ?_|refine Nx.h ?_|refine qBo ?_|refine qCt ?_|refine qCf ?_|((with_reducible apply xs_guard);exact rfl;exact rfl;intro c hc;(fail_if_success have:true=c:=hc);(fail_if_success have:false=c:=hc);cases c)|(refine xc_if rfl (fun hc=>?_) (fun hc=>?_))|(refine xc_cond rfl (fun hc=>?_) (fun hc=>?_)))
        refine dn (k := ?_)
        refine tk 23 hX (k := ?_)
        refine tk 24 hX (k := ?_)
        refine tk 25 hX (k := ?_)
        refine en (k := ?_)
        repeat' (first|refine vs (k:=?_)|refine ps (k:=?_)|((first|refine st hs (k:=?_)|refine stA hs (k:=?_));intro w hs)|((first|refine al hs (k:=?_)|refine bx hs (k:=?_)|refine bs hs (k:=?_));intro b w hz hs)|refine qRg ?_|refine Nx.h ?_|refine qBo ?_|refine qCt ?_|refine qCf ?_|((with_reducible apply xs_guard);exact rfl;exact rfl;intro c hc;(fail_if_success have:true=c:=hc);(fail_if_success have:false=c:=hc);cases c)|(refine xc_if rfl (fun hc=>?_) (fun hc=>?_))|(refine xc_cond rfl (fun hc=>?_) (fun hc=>?_)))
        first | refine rt (hq := ?_) | refine rt' (hq := ?_)
        refine ⟨?_, hs.only0 rfl⟩
        unfold Rq.right; rw [q1, q2, q3]
        show Value.bool _ = Value.bool _
        rw [eqPt]; rfl
def fixR (r : Rq) : Rq := bif mayN r.left then ⟨⟨r.i.p, r.i.id, dueP r.i.p r.left⟩, r.left, r.slice, r.asleep⟩ else r
def setR (r : Rq) : Option Rq := bif (fixR r).right then some (fixR r) else none
theorem fixR_in {r : Rq} (h : r.In) : (fixR r).In := by
  unfold fixR
  cases mayN r.left
  · exact h
  · exact ⟨⟨h.1.1, h.1.2.1, dueP_in _ _⟩, h.2⟩
def rqV (o : Option Rq) : Value := .tuple #[rv (o.getD .zero), .bool o.isSome]
set_option maxHeartbeats 4000000 in
theorem rset_ret (r : Rq) (hr : r.In) (w0 : World) : Ret Tryz.prog 41 #[rv r] w0 fun v w' => v = rqV (setR r) ∧ Only [] w0 w' := by
  have hs := St.nil w0
  refine ret_of_xc Tryz.func41 (by kernel_rfl) rfl Tryz.ntmps41 rfl rfl rfl ?_
  refine xc_seq ?_
  refine xc_region ?_ ?_; exact rfl
  refine bx hs (k := ?_); intro b1 w hz hs
  refine al hs (k := ?_); intro b2 w hz hs
  refine vs (k := ?_)
  refine XS.nil ?_
  refine then_of ?_
  refine xc_seq ?_
  refine xc_cutN (fun _ : Unit => [(1, .pointer (some ⟨b1, 0, none⟩)), (2, .pointer (some ⟨b2, 0, none⟩))]) (fun _ w => St w0 D0 [(b2, .cells Rq.zero.cells.toArray 36, true), (b1, .cells (fixR r).cells.toArray 36, true)] w) ?_ ?_
  · repeat' (first|refine vs (k:=?_)|refine ps (k:=?_)|((first|refine st hs (k:=?_)|refine stA hs (k:=?_));intro w hs)|((first|refine al hs (k:=?_)|refine bx hs (k:=?_)|refine bs hs (k:=?_));intro b w hz hs)|refine qRg ?_|refine Nx.h ?_|refine qBo ?_|refine qCt ?_|refine qCf ?_|((with_reducible apply xs_guard);exact rfl;exact rfl;intro c hc;(fail_if_success have:true=c:=hc);(fail_if_success have:false=c:=hc);cases c)|(refine xc_if rfl (fun hc=>?_) (fun hc=>?_))|(refine xc_cond rfl (fun hc=>?_) (fun hc=>?_)))
    (with_reducible apply xs_call); exact rfl; exact rfl; exact may_ret r.left _
    generalize hq : mayN r.left = q
    cases q
    · have e : fixR r = r := by unfold fixR; rw [hq]; rfl
      rw [e]
      rintro v w' ⟨rfl, ho⟩; replace hs := hs.call0 ho; repeat' (first|refine vs (k:=?_)|refine ps (k:=?_)|((first|refine st hs (k:=?_)|refine stA hs (k:=?_));intro w hs)|((first|refine al hs (k:=?_)|refine bx hs (k:=?_)|refine bs hs (k:=?_));intro b w hz hs)|refine qRg ?_|refine Nx.h ?_|refine qBo ?_|refine qCt ?_|refine qCf ?_|((with_reducible apply xs_guard);exact rfl;exact rfl;intro c hc;(fail_if_success have:true=c:=hc);(fail_if_success have:false=c:=hc);cases c)|(refine xc_if rfl (fun hc=>?_) (fun hc=>?_))|(refine xc_cond rfl (fun hc=>?_) (fun hc=>?_)))
      exact cutN_normal () (by (repeat (first | exact agree_nil | (apply agree_cons; exact rfl)))) hs
    · have e : fixR r = ⟨⟨r.i.p, r.i.id, dueP r.i.p r.left⟩, r.left, r.slice, r.asleep⟩ := by unfold fixR; rw [hq]; rfl
      have h2 := mayN_iff.1 hq
      rw [e]
      rintro v w' ⟨rfl, ho⟩; replace hs := hs.call0 ho; repeat' (first|refine vs (k:=?_)|refine ps (k:=?_)|((first|refine st hs (k:=?_)|refine stA hs (k:=?_));intro w hs)|((first|refine al hs (k:=?_)|refine bx hs (k:=?_)|refine bs hs (k:=?_));intro b w hz hs)|refine qRg ?_|refine Nx.h ?_|refine qBo ?_|refine qCt ?_|refine qCf ?_|((with_reducible apply xs_guard);exact rfl;exact rfl;intro c hc;(fail_if_success have:true=c:=hc);(fail_if_success have:false=c:=hc);cases c)|(refine xc_if rfl (fun hc=>?_) (fun hc=>?_))|(refine xc_cond rfl (fun hc=>?_) (fun hc=>?_)))
      (with_reducible apply xs_call); exact rfl; exact rfl; exact rdue_ret r.i.p r.left hr.1.1 (by omega) h2.2 _
      rintro v w' ⟨rfl, ho⟩; replace hs := hs.call0 ho; repeat' (first|refine vs (k:=?_)|refine ps (k:=?_)|((first|refine st hs (k:=?_)|refine stA hs (k:=?_));intro w hs)|((first|refine al hs (k:=?_)|refine bx hs (k:=?_)|refine bs hs (k:=?_));intro b w hz hs)|refine qRg ?_|refine Nx.h ?_|refine qBo ?_|refine qCt ?_|refine qCf ?_|((with_reducible apply xs_guard);exact rfl;exact rfl;intro c hc;(fail_if_success have:true=c:=hc);(fail_if_success have:false=c:=hc);cases c)|(refine xc_if rfl (fun hc=>?_) (fun hc=>?_))|(refine xc_cond rfl (fun hc=>?_) (fun hc=>?_)))
      exact cutN_normal () (by (repeat (first | exact agree_nil | (apply agree_cons; exact rfl)))) hs
  clear hs
  rintro _ env w hs
  have hf := fixR_in hr
  unfold setR
  generalize fixR r = u at *
  repeat' (first|refine vs (k:=?_)|refine ps (k:=?_)|((first|refine st hs (k:=?_)|refine stA hs (k:=?_));intro w hs)|((first|refine al hs (k:=?_)|refine bx hs (k:=?_)|refine bs hs (k:=?_));intro b w hz hs)|refine qRg ?_|refine Nx.h ?_|refine qBo ?_|refine qCt ?_|refine qCf ?_|((with_reducible apply xs_guard);exact rfl;exact rfl;intro c hc;(fail_if_success have:true=c:=hc);(fail_if_success have:false=c:=hc);cases c)|(refine xc_if rfl (fun hc=>?_) (fun hc=>?_))|(refine xc_cond rfl (fun hc=>?_) (fun hc=>?_)))
  (with_reducible apply xs_call); exact rfl; exact rfl; exact rright_ret u hf _
  generalize hq : u.right = q
  cases q
  · rintro v w' ⟨rfl, ho⟩; replace hs := hs.call0 ho; repeat' (first|refine vs (k:=?_)|refine ps (k:=?_)|((first|refine st hs (k:=?_)|refine stA hs (k:=?_));intro w hs)|((first|refine al hs (k:=?_)|refine bx hs (k:=?_)|refine bs hs (k:=?_));intro b w hz hs)|refine qRg ?_|refine Nx.h ?_|refine qBo ?_|refine qCt ?_|refine qCf ?_|((with_reducible apply xs_guard);exact rfl;exact rfl;intro c hc;(fail_if_success have:true=c:=hc);(fail_if_success have:false=c:=hc);cases c)|(refine xc_if rfl (fun hc=>?_) (fun hc=>?_))|(refine xc_cond rfl (fun hc=>?_) (fun hc=>?_)))
    first | refine rt (hq := ?_) | refine rt' (hq := ?_)
    exact ⟨rfl, hs.only0 rfl⟩
  · rintro v w' ⟨rfl, ho⟩; replace hs := hs.call0 ho; repeat' (first|refine vs (k:=?_)|refine ps (k:=?_)|((first|refine st hs (k:=?_)|refine stA hs (k:=?_));intro w hs)|((first|refine al hs (k:=?_)|refine bx hs (k:=?_)|refine bs hs (k:=?_));intro b w hz hs)|refine qRg ?_|refine Nx.h ?_|refine qBo ?_|refine qCt ?_|refine qCf ?_|((with_reducible apply xs_guard);exact rfl;exact rfl;intro c hc;(fail_if_success have:true=c:=hc);(fail_if_success have:false=c:=hc);cases c)|(refine xc_if rfl (fun hc=>?_) (fun hc=>?_))|(refine xc_cond rfl (fun hc=>?_) (fun hc=>?_)))
    first | refine rt (hq := ?_) | refine rt' (hq := ?_)
    exact ⟨rfl, hs.only0 rfl⟩
def newR (p : Pt) (id n : Int) : Option Rq := setR ⟨⟨p, id, .zero⟩, n, n, false⟩
theorem rnew_ret (p : Pt) (id n : Int) (hp' : p.In) (hi : In64 id) (hn : U64 n) (w0 : World) : Ret Tryz.prog 20 #[pv p, .int .i64 id, .int .u64 n] w0 fun v w' => v = rqV (newR p id n) ∧ Only [] w0 w' := by
  have hs := St.nil w0
  refine ret_of_xc Tryz.func20 (by kernel_rfl) rfl Tryz.ntmps20 rfl rfl rfl ?_
  repeat' (first|refine vs (k:=?_)|refine ps (k:=?_)|((first|refine st hs (k:=?_)|refine stA hs (k:=?_));intro w hs)|((first|refine al hs (k:=?_)|refine bx hs (k:=?_)|refine bs hs (k:=?_));intro b w hz hs)|refine qRg ?_|refine Nx.h ?_|refine qBo ?_|refine qCt ?_|refine qCf ?_|((with_reducible apply xs_guard);exact rfl;exact rfl;intro c hc;(fail_if_success have:true=c:=hc);(fail_if_success have:false=c:=hc);cases c)|(refine xc_if rfl (fun hc=>?_) (fun hc=>?_))|(refine xc_cond rfl (fun hc=>?_) (fun hc=>?_)))
  (with_reducible apply xs_call); exact rfl; exact rfl; exact rset_ret ⟨⟨p, id, .zero⟩, n, n, false⟩ ⟨⟨hp', hi, (by decide : Pt.zero.In)⟩, hn, hn⟩ _
  rintro v w' ⟨rfl, ho⟩; replace hs := hs.call0 ho; repeat' (first|refine vs (k:=?_)|refine ps (k:=?_)|((first|refine st hs (k:=?_)|refine stA hs (k:=?_));intro w hs)|((first|refine al hs (k:=?_)|refine bx hs (k:=?_)|refine bs hs (k:=?_));intro b w hz hs)|refine qRg ?_|refine Nx.h ?_|refine qBo ?_|refine qCt ?_|refine qCf ?_|((with_reducible apply xs_guard);exact rfl;exact rfl;intro c hc;(fail_if_success have:true=c:=hc);(fail_if_success have:false=c:=hc);cases c)|(refine xc_if rfl (fun hc=>?_) (fun hc=>?_))|(refine xc_cond rfl (fun hc=>?_) (fun hc=>?_)))
  first | refine rt (hq := ?_) | refine rt' (hq := ?_)
  exact ⟨rfl, hs.only0 rfl⟩
end Go.Proofs.YtegoaabjccignaaGreatDoorX

namespace Go.Proofs.YtegoaabjccignaaGreatDoorX
open Go Go.RowKit
attribute [local irreducible] XS XC XA thenE blockE retE loopE loopS cutB cutN doneE SE
theorem setR_in {r u : Rq} (h : r.In) (e : setR r = some u) : u.In ∧ u.right = true := by
  unfold setR at e
  cases hq : (fixR r).right
  · rw [hq] at e; cases e
  · rw [hq, cond_true] at e
    cases e
    exact ⟨fixR_in h, hq⟩
def lessR (r : Rq) (p : Pt) (n : Int) : Rq := ⟨⟨p, r.i.id, r.i.d⟩, bif decide (r.left - n = 0) then r.slice else r.left - n, r.slice, r.asleep⟩
def serveR (r : Rq) (n : Int) : Option (Rq × Bool) :=
  if r.right = true ∧ n ≠ 0 ∧ n ≤ r.left then (match movP r.i.p (n * 1048576) with | none => none | some p => (setR (lessR r p n)).map fun u => (u, decide (r.left - n = 0))) else none
def svV (o : Option (Rq × Bool)) : Value := match o with
  | none => .tuple #[rv .zero, .bool false, .bool false]
  | some (u, b) => .tuple #[rv u, .bool b, .bool true]
theorem right_left {r : Rq} (h : r.right = true) : 1 ≤ r.left ∧ r.left ≤ 1099511627776 ∧ 1 ≤ r.slice ∧ r.slice ≤ 1099511627776 := by
  unfold Rq.right at h
  simp only [Bool.and_eq_true] at h
  have h1 := mayN_iff.1 h.1.1.2
  have h2 := mayN_iff.1 h.1.2
  omega
theorem lessR_in {r : Rq} {p : Pt} {n : Int} (hr : r.In) (hp : p.In) (h0 : 0 ≤ n) (h1 : n ≤ r.left) : (lessR r p n).In := by
  refine ⟨⟨hp, hr.1.2⟩, ?_, hr.2.2⟩
  show U64 (bif decide (r.left - n = 0) then r.slice else r.left - n)
  cases decide (r.left - n = 0)
  · have := hr.2.1; unfold U64 at *; simp only [cond_false]; omega
  · exact hr.2.2
set_option maxHeartbeats 4000000 in
theorem rserve_ret (r : Rq) (n : Int) (hr : r.In) (hn : U64 n) (w0 : World) : Ret Tryz.prog 113 #[rv r, .int .u64 n] w0 fun v w' => v = svV (serveR r n) ∧ Only [] w0 w' := by
  have hs := St.nil w0
  refine ret_of_xc Tryz.func113 (by kernel_rfl) rfl Tryz.ntmps113 rfl rfl rfl ?_
  refine xc_seq ?_
  refine xc_region ?_ ?_; exact rfl
  refine bx hs (k := ?_); intro b2 w hz hs
  refine al hs (k := ?_); intro b4 w hz hs
  repeat' (first|refine vs (k:=?_)|refine ps (k:=?_)|((first|refine st hs (k:=?_)|refine stA hs (k:=?_));intro w hs)|((first|refine al hs (k:=?_)|refine bx hs (k:=?_)|refine bs hs (k:=?_));intro b w hz hs)|refine qRg ?_|refine Nx.h ?_|refine qBo ?_|refine qCt ?_|refine qCf ?_|((with_reducible apply xs_guard);exact rfl;exact rfl;intro c hc;(fail_if_success have:true=c:=hc);(fail_if_success have:false=c:=hc);cases c)|(refine xc_if rfl (fun hc=>?_) (fun hc=>?_))|(refine xc_cond rfl (fun hc=>?_) (fun hc=>?_)))
  (with_reducible apply xs_call); exact rfl; exact rfl; exact rright_ret r hr _
  rintro v w' ⟨rfl, ho⟩; replace hs := hs.call0 ho; repeat' (first|refine vs (k:=?_)|refine ps (k:=?_)|((first|refine st hs (k:=?_)|refine stA hs (k:=?_));intro w hs)|((first|refine al hs (k:=?_)|refine bx hs (k:=?_)|refine bs hs (k:=?_));intro b w hz hs)|refine qRg ?_|refine Nx.h ?_|refine qBo ?_|refine qCt ?_|refine qCf ?_|((with_reducible apply xs_guard);exact rfl;exact rfl;intro c hc;(fail_if_success have:true=c:=hc);(fail_if_success have:false=c:=hc);cases c)|(refine xc_if rfl (fun hc=>?_) (fun hc=>?_))|(refine xc_cond rfl (fun hc=>?_) (fun hc=>?_)))
  · first | refine rt (hq := ?_) | refine rt' (hq := ?_)
    refine ⟨?_, hs.only0 rfl⟩
    have : serveR r n = none := by unfold serveR; rw [if_neg (fun h => by omega)]
    rw [this]; rfl
  · have h1 : r.right = true := by simpa using ‹(!r.right) = false›
    have h2 : n ≠ 0 := by simpa using ‹(n == 0) = false›
    have h3 : n ≤ r.left := by omega
    have h4 := right_left h1
    have hn' := hn
    obtain ⟨hn0, hn1⟩ := hn'
    have e1 : IntKind.u64.wrap (n * 1048576) = n * 1048576 := by rw [wrap_u64]; omega
    have ev : serveR r n = match movP r.i.p (n * 1048576) with | none => none | some p => (setR (lessR r p n)).map fun u => (u, decide (r.left - n = 0)) := by unfold serveR; rw [if_pos ⟨h1, h2, h3⟩]
    (with_reducible apply xs_call); exact rfl; exact rfl; exact move_ret r.i.p (IntKind.u64.wrap (n * 1048576)) hr.1.1 (by rw [e1]; exact ⟨by omega, by omega⟩) _
    rw [e1]
    cases hp : movP r.i.p (n * 1048576) with
    | none =>
      rintro v w' ⟨rfl, ho⟩; replace hs := hs.call0 ho; repeat' (first|refine vs (k:=?_)|refine ps (k:=?_)|((first|refine st hs (k:=?_)|refine stA hs (k:=?_));intro w hs)|((first|refine al hs (k:=?_)|refine bx hs (k:=?_)|refine bs hs (k:=?_));intro b w hz hs)|refine qRg ?_|refine Nx.h ?_|refine qBo ?_|refine qCt ?_|refine qCf ?_|((with_reducible apply xs_guard);exact rfl;exact rfl;intro c hc;(fail_if_success have:true=c:=hc);(fail_if_success have:false=c:=hc);cases c)|(refine xc_if rfl (fun hc=>?_) (fun hc=>?_))|(refine xc_cond rfl (fun hc=>?_) (fun hc=>?_)))
      first | refine rt (hq := ?_) | refine rt' (hq := ?_)
      refine ⟨?_, hs.only0 rfl⟩
      rw [ev, hp]; rfl
    | some p =>
      have hpin := (at_some hp).1
      have e2 : IntKind.u64.wrap (r.left - n) = r.left - n := by rw [wrap_u64]; omega
      rw [hp] at ev
      simp only at ev
      have hlin := lessR_in hr hpin hn0 h3
      have ele : (lessR r p n).left = if IntKind.u64.wrap (r.left - n) = 0 then r.slice else IntKind.u64.wrap (r.left - n) := by
        rw [e2]; unfold lessR
        by_cases h : r.left - n = 0
        · rw [if_pos h, decide_eq_true h]; rfl
        · rw [if_neg h, decide_eq_false h]; rfl
      rintro v w' ⟨rfl, ho⟩; replace hs := hs.call0 ho
      repeat' (first|refine vs (k:=?_)|refine ps (k:=?_)|((first|refine st hs (k:=?_)|refine stA hs (k:=?_));intro w hs)|((first|refine al hs (k:=?_)|refine bx hs (k:=?_)|refine bs hs (k:=?_));intro b w hz hs)|refine qRg ?_|refine Nx.h ?_|refine qBo ?_|refine qCt ?_|refine qCf ?_|((with_reducible apply xs_guard);exact rfl;exact rfl;intro c hc;(fail_if_success have:true=c:=hc);(fail_if_success have:false=c:=hc);cases c)|(refine xc_if rfl (fun hc=>?_) (fun hc=>?_))|(refine xc_cond rfl (fun hc=>?_) (fun hc=>?_)))
      · have ez : r.left - n = 0 := by rw [← e2]; assumption
        have el : lessR r p n = ⟨⟨p, r.i.id, r.i.d⟩, r.slice, r.slice, r.asleep⟩ := by unfold lessR; rw [decide_eq_true ez]; rfl
        rw [el] at ev hlin
        rw [decide_eq_true ez] at ev
        have eb : (IntKind.u64.wrap (r.left - n) == 0) = true := by rw [e2, ez]; rfl
        (with_reducible apply xs_call); exact rfl; exact rfl; exact rset_ret ⟨⟨p, r.i.id, r.i.d⟩, r.slice, r.slice, r.asleep⟩ hlin _
        generalize setR ⟨⟨p, r.i.id, r.i.d⟩, r.slice, r.slice, r.asleep⟩ = o at *
        cases o
        · rintro v w' ⟨rfl, ho⟩; replace hs := hs.call0 ho; repeat' (first|refine vs (k:=?_)|refine ps (k:=?_)|((first|refine st hs (k:=?_)|refine stA hs (k:=?_));intro w hs)|((first|refine al hs (k:=?_)|refine bx hs (k:=?_)|refine bs hs (k:=?_));intro b w hz hs)|refine qRg ?_|refine Nx.h ?_|refine qBo ?_|refine qCt ?_|refine qCf ?_|((with_reducible apply xs_guard);exact rfl;exact rfl;intro c hc;(fail_if_success have:true=c:=hc);(fail_if_success have:false=c:=hc);cases c)|(refine xc_if rfl (fun hc=>?_) (fun hc=>?_))|(refine xc_cond rfl (fun hc=>?_) (fun hc=>?_)))
          first | refine rt (hq := ?_) | refine rt' (hq := ?_)
          exact ⟨by rw [ev]; rfl, hs.only0 rfl⟩
        · rintro v w' ⟨rfl, ho⟩; replace hs := hs.call0 ho; repeat' (first|refine vs (k:=?_)|refine ps (k:=?_)|((first|refine st hs (k:=?_)|refine stA hs (k:=?_));intro w hs)|((first|refine al hs (k:=?_)|refine bx hs (k:=?_)|refine bs hs (k:=?_));intro b w hz hs)|refine qRg ?_|refine Nx.h ?_|refine qBo ?_|refine qCt ?_|refine qCf ?_|((with_reducible apply xs_guard);exact rfl;exact rfl;intro c hc;(fail_if_success have:true=c:=hc);(fail_if_success have:false=c:=hc);cases c)|(refine xc_if rfl (fun hc=>?_) (fun hc=>?_))|(refine xc_cond rfl (fun hc=>?_) (fun hc=>?_)))
          first | refine rt (hq := ?_) | refine rt' (hq := ?_)
          exact ⟨by rw [ev, eb]; rfl, hs.only0 rfl⟩
      · have ez : ¬r.left - n = 0 := by rw [← e2]; assumption
        have el : lessR r p n = ⟨⟨p, r.i.id, r.i.d⟩, IntKind.u64.wrap (r.left - n), r.slice, r.asleep⟩ := by unfold lessR; rw [decide_eq_false ez, e2]; rfl
        rw [el] at ev hlin
        rw [decide_eq_false ez] at ev
        have eb : (IntKind.u64.wrap (r.left - n) == 0) = false := beq_false_of_ne (by rw [e2]; exact ez)
        (with_reducible apply xs_call); exact rfl; exact rfl; exact rset_ret ⟨⟨p, r.i.id, r.i.d⟩, IntKind.u64.wrap (r.left - n), r.slice, r.asleep⟩ hlin _
        generalize setR ⟨⟨p, r.i.id, r.i.d⟩, IntKind.u64.wrap (r.left - n), r.slice, r.asleep⟩ = o at *
        cases o
        · rintro v w' ⟨rfl, ho⟩; replace hs := hs.call0 ho; repeat' (first|refine vs (k:=?_)|refine ps (k:=?_)|((first|refine st hs (k:=?_)|refine stA hs (k:=?_));intro w hs)|((first|refine al hs (k:=?_)|refine bx hs (k:=?_)|refine bs hs (k:=?_));intro b w hz hs)|refine qRg ?_|refine Nx.h ?_|refine qBo ?_|refine qCt ?_|refine qCf ?_|((with_reducible apply xs_guard);exact rfl;exact rfl;intro c hc;(fail_if_success have:true=c:=hc);(fail_if_success have:false=c:=hc);cases c)|(refine xc_if rfl (fun hc=>?_) (fun hc=>?_))|(refine xc_cond rfl (fun hc=>?_) (fun hc=>?_)))
          first | refine rt (hq := ?_) | refine rt' (hq := ?_)
          exact ⟨by rw [ev]; rfl, hs.only0 rfl⟩
        · rintro v w' ⟨rfl, ho⟩; replace hs := hs.call0 ho; repeat' (first|refine vs (k:=?_)|refine ps (k:=?_)|((first|refine st hs (k:=?_)|refine stA hs (k:=?_));intro w hs)|((first|refine al hs (k:=?_)|refine bx hs (k:=?_)|refine bs hs (k:=?_));intro b w hz hs)|refine qRg ?_|refine Nx.h ?_|refine qBo ?_|refine qCt ?_|refine qCf ?_|((with_reducible apply xs_guard);exact rfl;exact rfl;intro c hc;(fail_if_success have:true=c:=hc);(fail_if_success have:false=c:=hc);cases c)|(refine xc_if rfl (fun hc=>?_) (fun hc=>?_))|(refine xc_cond rfl (fun hc=>?_) (fun hc=>?_)))
          first | refine rt (hq := ?_) | refine rt' (hq := ?_)
          exact ⟨by rw [ev, eb]; rfl, hs.only0 rfl⟩
  · first | refine rt (hq := ?_) | refine rt' (hq := ?_)
    refine ⟨?_, hs.only0 rfl⟩
    have : serveR r n = none := by unfold serveR; rw [if_neg (fun h => by simp_all)]
    rw [this]; rfl
  · first | refine rt (hq := ?_) | refine rt' (hq := ?_)
    refine ⟨?_, hs.only0 rfl⟩
    have : serveR r n = none := by unfold serveR; rw [if_neg (fun h => by simp_all)]
    rw [this]; rfl
end Go.Proofs.YtegoaabjccignaaGreatDoorX

namespace Go.Proofs.YtegoaabjccignaaGreatDoorX
open Go Go.RowKit
attribute [local irreducible] XS XC XA thenE blockE retE loopE loopS cutB cutN doneE SE
def lessN (n a : Int) : Int := if a < n then a else n
theorem lessN_in {n a : Int} (h1 : U64 n) (h2 : U64 a) : U64 (lessN n a) := by
  unfold lessN U64 at *; split <;> omega
def servedL : Rq → Nat → List Int → Option (Rq × Nat)
  | r, c, [] => some (r, c)
  | r, c, n :: l => match serveR r (lessN n r.left) with
    | none => none
    | some (u, b) => servedL u (c + bif b then 1 else 0) l
def sdV (o : Option (Rq × Nat)) : Value := match o with
  | none => .tuple #[rv .zero, .int .i64 0, .bool false]
  | some (u, c) => .tuple #[rv u, .int .i64 c, .bool true]
theorem serveR_in {r u : Rq} {n : Int} {b : Bool} (hr : r.In) (hn : U64 n) (h : serveR r n = some (u, b)) : u.In := by
  unfold serveR at h
  split at h
  · rename_i h1
    cases hp : movP r.i.p (n * 1048576) with
    | none => rw [hp] at h; cases h
    | some p =>
      rw [hp] at h
      obtain ⟨v, hv, h⟩ := Option.map_eq_some_iff.1 h
      cases h
      exact (setR_in (lessR_in hr (at_some hp).1 hn.1 h1.2.2) hv).1
  · cases h
theorem servedL_cons {r : Rq} {c : Nat} {n : Int} {l : List Int} : servedL r c (n :: l) = match serveR r (lessN n r.left) with
    | none => none
    | some (u, b) => servedL u (c + bif b then 1 else 0) l := rfl
set_option maxHeartbeats 2000000 in
theorem rserved_ret (r : Rq) (ns : List Int) (sl : Value) (hr : r.In) (hn : ∀ n ∈ ns, U64 n) (hm : ns.length ≤ 1000000) (w0 : World) (hL : LsAt w0 28 1 sl (ns.map fun n => [.int .u64 n])) :
    Ret Tryz.prog 82 #[rv r, sl] w0 fun v w' => v = sdV (servedL r 0 ns) ∧ Only [] w0 w' := by
  obtain ⟨ad, cap, rfl, hD⟩ := hL
  rw [List.length_map] at *
  have hs := St.nil w0
  refine ret_of_xc Tryz.func82 (by kernel_rfl) rfl Tryz.ntmps82 rfl rfl rfl ?_
  refine xc_seq ?_
  refine xc_region ?_ ?_; exact rfl
  refine bx hs (k := ?_); intro b2 w hz hs
  refine al hs (k := ?_); intro b4 w hz hs
  repeat' (first|refine vs (k:=?_)|refine ps (k:=?_)|((first|refine st hs (k:=?_)|refine stA hs (k:=?_));intro w hs)|((first|refine al hs (k:=?_)|refine bx hs (k:=?_)|refine bs hs (k:=?_));intro b w hz hs)|refine qRg ?_|refine Nx.h ?_|refine qBo ?_|refine qCt ?_|refine qCf ?_|((with_reducible apply xs_guard);exact rfl;exact rfl;intro c hc;(fail_if_success have:true=c:=hc);(fail_if_success have:false=c:=hc);cases c)|(refine xc_if rfl (fun hc=>?_) (fun hc=>?_))|(refine xc_cond rfl (fun hc=>?_) (fun hc=>?_)))
  refine xc_cutB (fun (s : Rq × Nat) => [(2, .pointer (some ⟨b2, 0, none⟩)), (4, .pointer (some ⟨b4, 0, none⟩)), (7, .int .i64 (s.2 : Nat))]) (fun s w => St w0 D0 [(b4, .cells Rq.zero.cells.toArray 36, true), (b2, .cells s.1.cells.toArray 36, true)] w ∧ servedL r 0 ns = some s) ?_ ?_
  · refine xc_loopS (fun (s : Nat × Rq × Nat) => [(2, .pointer (some ⟨b2, 0, none⟩)), (4, .pointer (some ⟨b4, 0, none⟩)), (7, .int .i64 (s.2.2 : Nat)), (13, .slice ad ns.length cap), (14, .int .i64 (ns.length : Nat)), (15, .int .i64 (s.1 : Nat))])
      (fun s w => s.1 ≤ ns.length ∧ s.2.2 ≤ s.1 ∧ s.2.1.In ∧ servedL r 0 ns = servedL s.2.1 s.2.2 (ns.drop s.1) ∧ St w0 D0 [(b4, .cells Rq.zero.cells.toArray 36, true), (b2, .cells s.2.1.cells.toArray 36, true)] w) (fun s => ns.length - s.1) (0, r, 0) (by (repeat (first | exact agree_nil | (apply agree_cons; exact rfl)))) ⟨Nat.zero_le _, Nat.le_refl _, hr, rfl, hs⟩ fun s env wl ⟨hi, hc0, hu, hv, hs⟩ => ?_
    obtain ⟨i, u, c⟩ := s
    simp only at hi hc0 hu hv hs
    repeat' (first|refine vs (k:=?_)|refine ps (k:=?_)|((first|refine st hs (k:=?_)|refine stA hs (k:=?_));intro w hs)|((first|refine al hs (k:=?_)|refine bx hs (k:=?_)|refine bs hs (k:=?_));intro b w hz hs)|refine qRg ?_|refine Nx.h ?_|refine qBo ?_|refine qCt ?_|refine qCf ?_|((with_reducible apply xs_guard);exact rfl;exact rfl;intro c hc;(fail_if_success have:true=c:=hc);(fail_if_success have:false=c:=hc);cases c)|(refine xc_if rfl (fun hc=>?_) (fun hc=>?_))|(refine xc_cond rfl (fun hc=>?_) (fun hc=>?_)))
    · have hlt : i < ns.length := by omega
      obtain ⟨b, off, cs, fz, rfl, _, hb, hcs⟩ := hD (fun h => by simp at h; subst h; cases hlt)
      have hpk := hcs i [.int .u64 ns[i]] (by rw [List.getElem?_map, List.getElem?_eq_getElem hlt]; rfl)
      have ei := nx64 (m := ns.length) hlt (by omega)
      have ec := nx64 (i := c) (m := ns.length) (by omega) (by omega)
      have ed : ns.drop i = ns[i] :: ns.drop (i + 1) := List.drop_eq_getElem_cons hlt
      have hnn := hn _ (List.getElem_mem hlt)
      rw [ed, servedL_cons] at hv
      generalize ns[i] = n at *
      refine ix (h0 := (by omega)) (h1 := (by omega)) (k := ?_)
      refine lh ((hs.only0 rfl).block hb (by simp)) (by cases hpk; assumption) (k := ?_)
      repeat' (first|refine vs (k:=?_)|refine ps (k:=?_)|((first|refine st hs (k:=?_)|refine stA hs (k:=?_));intro w hs)|((first|refine al hs (k:=?_)|refine bx hs (k:=?_)|refine bs hs (k:=?_));intro b w hz hs)|refine qRg ?_|refine Nx.h ?_|refine qBo ?_|refine qCt ?_|refine qCf ?_|((with_reducible apply xs_guard);exact rfl;exact rfl;intro c hc;(fail_if_success have:true=c:=hc);(fail_if_success have:false=c:=hc);cases c)|(refine xc_if rfl (fun hc=>?_) (fun hc=>?_))|(refine xc_cond rfl (fun hc=>?_) (fun hc=>?_)))
      have hin : ∀ x y, serveR u (lessN n u.left) = some (x, y) → x.In := fun x y h => serveR_in hu (lessN_in hnn hu.2.1) h
      (with_reducible apply xs_call); exact rfl; exact rfl; exact rserve_ret u (lessN n u.left) hu (lessN_in hnn hu.2.1) _
      generalize serveR u (lessN n u.left) = o at *
      rcases o with _ | ⟨u', b'⟩
      · simp only at hv
        rintro v w' ⟨rfl, ho⟩; replace hs := hs.call0 ho; repeat' (first|refine vs (k:=?_)|refine ps (k:=?_)|((first|refine st hs (k:=?_)|refine stA hs (k:=?_));intro w hs)|((first|refine al hs (k:=?_)|refine bx hs (k:=?_)|refine bs hs (k:=?_));intro b w hz hs)|refine qRg ?_|refine Nx.h ?_|refine qBo ?_|refine qCt ?_|refine qCf ?_|((with_reducible apply xs_guard);exact rfl;exact rfl;intro c hc;(fail_if_success have:true=c:=hc);(fail_if_success have:false=c:=hc);cases c)|(refine xc_if rfl (fun hc=>?_) (fun hc=>?_))|(refine xc_cond rfl (fun hc=>?_) (fun hc=>?_)))
        first | refine rt (hq := ?_) | refine rt' (hq := ?_)
        exact ⟨by rw [hv]; rfl, hs.only0 rfl⟩
      · simp only at hv
        have hu2 := hin _ _ rfl
        cases b'
        · rintro v w' ⟨rfl, ho⟩; replace hs := hs.call0 ho; repeat' (first|refine vs (k:=?_)|refine ps (k:=?_)|((first|refine st hs (k:=?_)|refine stA hs (k:=?_));intro w hs)|((first|refine al hs (k:=?_)|refine bx hs (k:=?_)|refine bs hs (k:=?_));intro b w hz hs)|refine qRg ?_|refine Nx.h ?_|refine qBo ?_|refine qCt ?_|refine qCf ?_|((with_reducible apply xs_guard);exact rfl;exact rfl;intro c hc;(fail_if_success have:true=c:=hc);(fail_if_success have:false=c:=hc);cases c)|(refine xc_if rfl (fun hc=>?_) (fun hc=>?_))|(refine xc_cond rfl (fun hc=>?_) (fun hc=>?_)))
          exact loopS_next (i + 1, u', c) (by show ns.length - (i + 1) < ns.length - i; omega) (by (repeat (first | exact agree_nil | (apply agree_cons; first | exact rfl | exact congrArg (Value.int .i64) ei)))) ⟨by show i + 1 ≤ _; omega, by show c ≤ i + 1; omega, hu2, by rw [hv]; rfl, hs.forgetNew⟩
        · rintro v w' ⟨rfl, ho⟩; replace hs := hs.call0 ho; repeat' (first|refine vs (k:=?_)|refine ps (k:=?_)|((first|refine st hs (k:=?_)|refine stA hs (k:=?_));intro w hs)|((first|refine al hs (k:=?_)|refine bx hs (k:=?_)|refine bs hs (k:=?_));intro b w hz hs)|refine qRg ?_|refine Nx.h ?_|refine qBo ?_|refine qCt ?_|refine qCf ?_|((with_reducible apply xs_guard);exact rfl;exact rfl;intro c hc;(fail_if_success have:true=c:=hc);(fail_if_success have:false=c:=hc);cases c)|(refine xc_if rfl (fun hc=>?_) (fun hc=>?_))|(refine xc_cond rfl (fun hc=>?_) (fun hc=>?_)))
          exact loopS_next (i + 1, u', c + 1) (by show ns.length - (i + 1) < ns.length - i; omega) (by (repeat (first | exact agree_nil | (apply agree_cons; first | exact rfl | exact congrArg (Value.int .i64) ei | exact congrArg (Value.int .i64) ec)))) ⟨by show i + 1 ≤ _; omega, by show c + 1 ≤ i + 1; omega, hu2, by rw [hv]; rfl, hs.forgetNew⟩
    · have e : i = ns.length := by omega
      subst e
      rw [List.drop_length] at hv
      exact cutB_exit (u, c) (by (repeat (first | exact agree_nil | (apply agree_cons; exact rfl)))) ⟨hs, hv⟩
  · clear hs
    rintro ⟨u, c⟩ env w ⟨hs, hv⟩
    simp only at hs
    rw [hv]
    repeat' (first|refine vs (k:=?_)|refine ps (k:=?_)|((first|refine st hs (k:=?_)|refine stA hs (k:=?_));intro w hs)|((first|refine al hs (k:=?_)|refine bx hs (k:=?_)|refine bs hs (k:=?_));intro b w hz hs)|refine qRg ?_|refine Nx.h ?_|refine qBo ?_|refine qCt ?_|refine qCf ?_|((with_reducible apply xs_guard);exact rfl;exact rfl;intro c hc;(fail_if_success have:true=c:=hc);(fail_if_success have:false=c:=hc);cases c)|(refine xc_if rfl (fun hc=>?_) (fun hc=>?_))|(refine xc_cond rfl (fun hc=>?_) (fun hc=>?_)))
    first | refine rt (hq := ?_) | refine rt' (hq := ?_)
    exact ⟨rfl, hs.only0 rfl⟩
end Go.Proofs.YtegoaabjccignaaGreatDoorX

namespace Go.Proofs.YtegoaabjccignaaGreatDoorX
open Go Go.RowKit Go.Maps
def hld (v : Value) : Option (DataW Value × List MemPlace) := some (.held v, [])
def keyL (i : Int) : Lit := .int .i64 i
def MapAt (w : World) (b : Nat) (f : Int → Option Value) (c : Nat) : Prop :=
  ∃ D : DataW Value, w.ownsMap Tryz.prog 3 hld b c D ∧ Maps.size D = c ∧ ∀ i, In64 i → Maps.has D (keyL i) = (f i).isSome ∧ ∀ z, D.atKey (keyL i) (.held z) = .held ((f i).getD z)
theorem intK : Keyed Tryz.prog 3 := int_keyed (q := .i64) (by kernel_rfl)
theorem key_of {i : Int} (h : In64 i) : keyOf Tryz.prog 3 (.int .i64 i) = some (keyL i) := keyOf_int_mk (q := .i64) (by kernel_rfl) (by
  show (decide (IntKind.i64.min ≤ i) && decide (i ≤ IntKind.i64.max)) = true
  have e1 : IntKind.i64.min = -9223372036854775808 := rfl
  have e2 : IntKind.i64.max = 9223372036854775807 := rfl
  obtain ⟨h1, h2⟩ := h
  rw [e1, e2, decide_eq_true h1, decide_eq_true (show i ≤ 9223372036854775807 by omega)]; rfl)
theorem Only.of_grown {w w' : World} {b : Nat} (h : w.grownBy w' (some b)) : Only [b] w w' := by
  obtain ⟨h1, h2, h3, h4, h5⟩ := h
  exact ⟨h1, h2, h3, h4, fun k hk hn => h5 k hk (fun e => hn (by cases e; exact List.mem_singleton.2 rfl))⟩
theorem MapAt.keep {w w' : World} {b c : Nat} {f : Int → Option Value} {F : List Nat} (h : MapAt w b f c) (ho : Only F w w') (hb : b ∉ F) : MapAt w' b f c := by
  obtain ⟨D, ⟨es, clock, h1, h2⟩, h3⟩ := h
  exact ⟨D, ⟨es, clock, ho.block h1 hb, h2⟩, h3⟩
theorem MapAt.lt {w : World} {b c : Nat} {f : Int → Option Value} (h : MapAt w b f c) : b < w.heap.size := by
  obtain ⟨D, ⟨es, clock, h1, h2⟩, h3⟩ := h
  exact lt_of_block h1
theorem MapAt.ne {w : World} {b c : Nat} {f : Int → Option Value} (h : MapAt w b f c) {b' : Nat} {cs : Array Value} {t : Nat} {fz : Nat × Nat} (hb : w.heap[b']? = some (.cells cs t fz)) : b' ≠ b := fun e => by
  subst e
  obtain ⟨D, ⟨es, clock, h1, h2⟩, h3⟩ := h
  rw [h1] at hb; cases hb
theorem MapAt.made (w : World) : MapAt (w.alloc (.map #[] 0)) w.heap.size (fun _ => none) 0 :=
  ⟨.map [], World.ownsMap_made _ _ _ _, rfl, fun i hi => ⟨rfl, fun z => rfl⟩⟩
def updF (f : Int → Option Value) (i : Int) (v : Option Value) : Int → Option Value := fun j => bif decide (j = i) then v else f j
theorem key_ne {i j : Int} (h : j ≠ i) : keyL j ≠ keyL i := fun e => by
  unfold keyL at e
  injection e with _ e
  exact h e
theorem isKeyL (i : Int) (h : In64 i) : WideAt.IsKeyLit (keyL i) := (intK.key (key_of h))
section
variable {w : World} {b c : Nat} {f : Int → Option Value} {t e : Nat} {z v : Value} {i : Int}
theorem MapAt.look (h : MapAt w b f c) (ht : Tryz.prog.underlying t = some (.map 3 e)) (hz : (zeroValue e).run Tryz.prog w = .ok z w) (hi : In64 i) : (Instr.lookup t (.map (some b)) (.int .i64 i) true).run Tryz.prog w = .ok (.tuple #[(f i).getD z, .bool (f i).isSome]) w := by
  obtain ⟨D, h1, h2, h3⟩ := h
  obtain ⟨v, ps, hr, hv⟩ := h1.look_ok intK ht hz (zd := .held z) (zp := []) rfl (key_of hi)
  obtain ⟨h4, h5⟩ := h3 i hi
  have e1 : DataW.held v = D.atKey (keyL i) (.held z) := by
    unfold hld at hv; simp only [Option.some.injEq, Prod.mk.injEq] at hv; exact hv.1
  rw [h5 z] at e1
  injection e1 with e1
  rw [hr, show Maps.has D (keyL i) = (f i).isSome from h4, e1]
theorem MapAt.look1 (h : MapAt w b f c) (ht : Tryz.prog.underlying t = some (.map 3 e)) (hz : (zeroValue e).run Tryz.prog w = .ok z w) (hi : In64 i) : (Instr.lookup t (.map (some b)) (.int .i64 i) false).run Tryz.prog w = .ok ((f i).getD z) w := by
  obtain ⟨D, h1, h2, h3⟩ := h
  obtain ⟨v, ps, hr, hv⟩ := h1.lookup intK ht hz (zd := .held z) (zp := []) rfl (key_of hi)
  obtain ⟨h4, h5⟩ := h3 i hi
  have e1 : DataW.held v = D.atKey (keyL i) (.held z) := by
    unfold hld at hv; simp only [Option.some.injEq, Prod.mk.injEq] at hv; exact hv.1
  rw [h5 z] at e1
  injection e1 with e1
  rw [hr, e1]
theorem ownsMap_fit {D : DataW Value} {n : Nat} (h : w.ownsMap Tryz.prog 3 hld b n D) : w.ownsMap Tryz.prog 3 hld b (Maps.size D) D := by
  obtain ⟨es, clock, h1, h2, h3, h4⟩ := h
  refine ⟨es, clock, h1, h2, ?_, h4⟩
  rw [h4]
  simp [Maps.size, length_sorted]
theorem MapAt.store (h : MapAt w b f c) (ht : Tryz.prog.underlying t = some (.map 3 e)) (hi : In64 i) (hc : c < maxLen) : ∃ w', (Instr.mapUpdate t (.map (some b)) (.int .i64 i) v).run Tryz.prog w = .ok () w' ∧ MapAt w' b (updF f i (some v)) (if (f i).isSome then c else c + 1) ∧ Only [b] w w' := by
  obtain ⟨D, h1, h2, h3⟩ := h
  obtain ⟨w', hr, h4, h5⟩ := h1.store intK ht hc (d := .held v) (ps := []) (val := v) (key_of hi) rfl
  have hT := h1.tidy intK
  have hs : Maps.size (D.put (keyL i) (.held v)) = if (f i).isSome then c else c + 1 := by rw [size_put hT, (h3 i hi).1, h2]
  refine ⟨w', hr, ⟨_, by rw [← hs]; exact ownsMap_fit h4, hs, fun j hj => ?_⟩, Only.of_grown h5.grown⟩
  by_cases e1 : j = i
  · subst e1
    unfold updF
    rw [decide_eq_true rfl, cond_true]
    exact ⟨has_put_same h1.isMap (isKeyL j hj) _, fun z => atKey_put_same h1.isMap (isKeyL j hj) _ _⟩
  · unfold updF
    rw [decide_eq_false e1, cond_false, has_put_other (key_ne e1)]
    exact ⟨(h3 j hj).1, fun z => by rw [atKey_put_other (key_ne e1)]; exact (h3 j hj).2 z⟩
theorem MapAt.drop (h : MapAt w b f c) (ht : Tryz.prog.underlying t = some (.map 3 e)) (hi : In64 i) (ty : Nat) : ∃ w', (Builtin.delete_ #[t, 3] ty #[.map (some b), .int .i64 i]).run Tryz.prog w = .ok (.tuple #[]) w' ∧ MapAt w' b (updF f i none) (if (f i).isSome then c - 1 else c) ∧ Only [b] w w' := by
  obtain ⟨D, h1, h2, h3⟩ := h
  obtain ⟨w', hr, h4, h5⟩ := h1.drop intK ht (key_of hi) ty
  have hT := h1.tidy intK
  have hs : Maps.size (D.del (keyL i)) = if (f i).isSome then c - 1 else c := by
    have := size_del (k := keyL i) hT
    rw [(h3 i hi).1, h2] at this
    split at this <;> rename_i hx <;> simp only [hx, if_true, if_false, Bool.false_eq_true] <;> omega
  refine ⟨w', hr, ⟨_, by rw [← hs]; exact ownsMap_fit h4, hs, fun j hj => ?_⟩, Only.of_grown h5.grown⟩
  by_cases e1 : j = i
  · subst e1
    unfold updF
    rw [decide_eq_true rfl, cond_true]
    exact ⟨has_del_same, fun z => atKey_del_same _⟩
  · unfold updF
    rw [decide_eq_false e1, cond_false, has_del_other (key_ne e1)]
    exact ⟨(h3 j hj).1, fun z => by rw [atKey_del_other (key_ne e1)]; exact (h3 j hj).2 z⟩
end
end Go.Proofs.YtegoaabjccignaaGreatDoorX

namespace Go.Proofs.YtegoaabjccignaaGreatDoorX
open Go Go.RowKit
abbrev RT := {r : Rq // r.In}
def idR (r : RT) : Int := r.1.i.id
def OrdR (l : List RT) : Prop := (l.map idR).Pairwise (· < ·)
def findR (l : List RT) (i : Int) : Option RT := l.find? fun a => decide (idR a = i)
def putR (r : RT) : List RT → List RT
  | [] => [r]
  | a :: l => if idR r < idR a then r :: a :: l else if idR r = idR a then r :: l else a :: putR r l
def delR (i : Int) (l : List RT) : List RT := l.filter fun a => decide (idR a ≠ i)
def rvals (l : List RT) : Int → Option Value := fun i => (findR l i).map fun a => rv a.1
theorem findR_nil (i : Int) : findR [] i = none := rfl
theorem findR_cons (a : RT) (l : List RT) (i : Int) : findR (a :: l) i = if idR a = i then some a else findR l i := by
  unfold findR
  rw [List.find?_cons]
  by_cases h : idR a = i
  · rw [if_pos h, decide_eq_true h]
  · rw [if_neg h, decide_eq_false h]
theorem findR_put (r : RT) (i : Int) : ∀ l : List RT, findR (putR r l) i = if i = idR r then some r else findR l i
  | [] => by
    unfold putR
    rw [findR_cons, findR_nil]
    by_cases h : i = idR r
    · rw [if_pos h, if_pos h.symm]
    · rw [if_neg h, if_neg (fun e => h e.symm)]
  | a :: l => by
    unfold putR
    split
    · rw [findR_cons]
      by_cases h : i = idR r
      · rw [if_pos h, if_pos h.symm]
      · rw [if_neg h, if_neg (fun e => h e.symm)]
    · split
      · rename_i h1 h2
        rw [findR_cons, findR_cons]
        by_cases h : i = idR r
        · rw [if_pos h, if_pos h.symm]
        · rw [if_neg h, if_neg (fun e => h e.symm), if_neg (fun e => h (by omega))]
      · rename_i h1 h2
        rw [findR_cons, findR_cons, findR_put r i l]
        by_cases h : i = idR r
        · rw [if_pos h, if_pos h, if_neg (by omega)]
        · rw [if_neg h, if_neg h]
theorem findR_del (k i : Int) : ∀ l : List RT, findR (delR k l) i = if i = k then none else findR l i
  | [] => by unfold delR; rw [List.filter_nil, findR_nil]; split <;> rfl
  | a :: l => by
    have ih := findR_del k i l
    unfold delR at ih ⊢
    rw [List.filter_cons]
    by_cases h : idR a = k
    · rw [if_neg (by simp [h]), ih, findR_cons]
      by_cases hi : i = k
      · rw [if_pos hi, if_pos hi]
      · rw [if_neg hi, if_neg hi, if_neg (fun e => hi (by omega))]
    · rw [if_pos (by simp [h]), findR_cons, findR_cons, ih]
      by_cases hi : i = k
      · rw [if_pos hi, if_pos hi, if_neg (by omega)]
      · rw [if_neg hi, if_neg hi]
theorem OrdR.tail {a : RT} {l : List RT} (h : OrdR (a :: l)) : OrdR l := by
  unfold OrdR at *; rw [List.map_cons, List.pairwise_cons] at h; exact h.2
theorem OrdR.head {a : RT} {l : List RT} (h : OrdR (a :: l)) : ∀ b ∈ l, idR a < idR b := fun b hb => by
  unfold OrdR at *; rw [List.map_cons, List.pairwise_cons] at h; exact h.1 _ (List.mem_map_of_mem hb)
theorem OrdR.cons {a : RT} {l : List RT} (h : OrdR l) (hd : ∀ b ∈ l, idR a < idR b) : OrdR (a :: l) := by
  unfold OrdR at *; rw [List.map_cons, List.pairwise_cons]
  exact ⟨fun x hx => by obtain ⟨b, hb, rfl⟩ := List.mem_map.1 hx; exact hd b hb, h⟩
theorem findR_some {l : List RT} {i : Int} {a : RT} (h : findR l i = some a) : a ∈ l ∧ idR a = i := by
  unfold findR at h
  exact ⟨List.mem_of_find?_eq_some h, by simpa using List.find?_some h⟩
theorem findR_mem {l : List RT} {a : RT} (h : a ∈ l) : (findR l (idR a)).isSome = true := by
  unfold findR
  rw [List.find?_isSome]
  exact ⟨a, h, by simp⟩
theorem findR_less {l : List RT} {i : Int} (h : ∀ b ∈ l, i < idR b) : findR l i = none := by
  cases e : findR l i with
  | none => rfl
  | some a => obtain ⟨h1, h2⟩ := findR_some e; have := h a h1; omega
theorem mem_put {r b : RT} : ∀ {l : List RT}, b ∈ putR r l → b = r ∨ b ∈ l
  | [], h => by simpa [putR] using h
  | a :: l, h => by
    unfold putR at h
    split at h
    · simpa using h
    · split at h
      · rcases List.mem_cons.1 h with h | h
        · exact .inl h
        · exact .inr (List.mem_cons_of_mem _ h)
      · rcases List.mem_cons.1 h with h | h
        · exact .inr (h ▸ List.mem_cons_self)
        · rcases mem_put h with h | h
          · exact .inl h
          · exact .inr (List.mem_cons_of_mem _ h)
theorem ord_put {r : RT} : ∀ {l : List RT}, OrdR l → OrdR (putR r l)
  | [], h => by show OrdR [r]; exact OrdR.cons h (by simp)
  | a :: l, h => by
    unfold putR
    split
    · rename_i h1
      refine h.cons fun b hb => ?_
      rcases List.mem_cons.1 hb with rfl | hb
      · exact h1
      · have := h.head b hb; omega
    · split
      · rename_i h1 h2
        exact h.tail.cons fun b hb => by have := h.head b hb; omega
      · rename_i h1 h2
        refine (ord_put h.tail).cons fun b hb => ?_
        rcases mem_put hb with rfl | hb
        · omega
        · exact h.head b hb
theorem len_put {r : RT} : ∀ {l : List RT}, OrdR l → (putR r l).length = if (findR l (idR r)).isSome then l.length else l.length + 1
  | [], h => rfl
  | a :: l, h => by
    unfold putR
    split
    · rename_i h1
      rw [findR_less (fun b hb => by
        rcases List.mem_cons.1 hb with rfl | hb
        · exact h1
        · have := h.head b hb; omega)]
      rfl
    · split
      · rename_i h1 h2
        rw [findR_cons, if_pos h2.symm]; rfl
      · rename_i h1 h2
        have e1 : findR (a :: l) (idR r) = findR l (idR r) := by rw [findR_cons]; exact if_neg fun e => h2 e.symm
        rw [e1, List.length_cons, len_put h.tail]
        cases (findR l (idR r)).isSome <;> simp
theorem ord_del {i : Int} {l : List RT} (h : OrdR l) : OrdR (delR i l) := by
  unfold OrdR delR at *
  exact h.sublist (List.filter_sublist.map _)
theorem len_del {i : Int} : ∀ {l : List RT}, OrdR l → (delR i l).length = if (findR l i).isSome then l.length - 1 else l.length
  | [], h => rfl
  | a :: l, h => by
    have ih := len_del (i := i) h.tail
    unfold delR at ih ⊢
    rw [List.filter_cons, findR_cons]
    by_cases e : idR a = i
    · rw [if_neg (by simp [e]), if_pos e, ih, findR_less (fun b hb => by have := h.head b hb; omega)]
      rfl
    · rw [if_pos (by simp [e]), if_neg e, List.length_cons, ih]
      cases hf : findR l i with
      | none => rfl
      | some b =>
        have h1 := (findR_some hf).1
        cases l with
        | nil => cases h1
        | cons c l => simp
theorem rvals_put (r : RT) (l : List RT) : updF (rvals l) (idR r) (some (rv r.1)) = rvals (putR r l) := by
  funext i
  unfold updF rvals
  rw [findR_put]
  by_cases h : i = idR r
  · rw [if_pos h, decide_eq_true h]; rfl
  · rw [if_neg h, decide_eq_false h]; rfl
theorem rvals_del (k : Int) (l : List RT) : updF (rvals l) k none = rvals (delR k l) := by
  funext i
  unfold updF rvals
  rw [findR_del]
  by_cases h : i = k
  · rw [if_pos h, decide_eq_true h]; rfl
  · rw [if_neg h, decide_eq_false h]; rfl
theorem rvals_some (l : List RT) (i : Int) : (rvals l i).isSome = (findR l i).isSome := by unfold rvals; cases findR l i <;> rfl
def getL (l : List RT) (i : Int) : Rq := match findR l i with | some a => a.1 | none => .zero
theorem rvals_get (l : List RT) (i : Int) : (rvals l i).getD (rv .zero) = rv (getL l i) := by unfold rvals getL; cases findR l i <;> rfl
theorem ids_iff (l : List RT) (x : Int) : x ∈ l.map idR ↔ In64 x ∧ (rvals l x).isSome = true := by
  rw [rvals_some]
  constructor
  · intro h
    obtain ⟨a, ha, rfl⟩ := List.mem_map.1 h
    exact ⟨a.2.1.2.1, findR_mem ha⟩
  · rintro ⟨_, h⟩
    cases e : findR l x with
    | none => rw [e] at h; cases h
    | some a => obtain ⟨h1, h2⟩ := findR_some e; exact List.mem_map.2 ⟨a, h1, h2⟩
theorem rvals_nil : rvals [] = fun _ => none := rfl
theorem findR_at {l : List RT} (h : OrdR l) {a : RT} (ha : a ∈ l) : findR l (idR a) = some a := by
  induction l with
  | nil => cases ha
  | cons b l ih =>
    rw [findR_cons]
    rcases List.mem_cons.1 ha with rfl | ha
    · rw [if_pos rfl]
    · have := h.head a ha
      rw [if_neg (by omega)]
      exact ih h.tail ha
end Go.Proofs.YtegoaabjccignaaGreatDoorX

namespace Go.Proofs.YtegoaabjccignaaGreatDoorX
open Go Go.RowKit
attribute [local irreducible] XS XC XA thenE blockE retE loopE loopS cutB cutN doneE SE
def places (l : List It) : List Pt := l.map It.p
def bothPs (l : List It) : List Pt := l.flatMap fun a => [a.p, a.d]
def spr (base : Int) (l : List It) : Int := (maxL (sinces base (bothPs l)) - minL (sinces base (places l))) % 18446744073709551616
def flatP (ps : List Pt) : List Value := (ps.map Pt.cells).flatten
theorem flatP_app (a b : List Pt) : flatP (a ++ b) = flatP a ++ flatP b := by simp [flatP]
def Two (w0 w : World) (v1 v2 : Value) (a b : List Pt) : Prop := ∃ G1 G2, SlV w 32 3 v1 a.length (flatP a) G1 ∧ SlV w 32 3 v2 b.length (flatP b) G2 ∧ (∀ k ∈ G1, w0.heap.size ≤ k ∧ k ∉ G2) ∧ (∀ k ∈ G2, w0.heap.size ≤ k)
theorem flatP_len (a : List Pt) : ∀ x ∈ a.map Pt.cells, x.length = 3 := fun x hx => by obtain ⟨p, _, rfl⟩ := List.mem_map.1 hx; rfl
theorem both_len : ∀ l : List It, (bothPs l).length = 2 * l.length
  | [] => rfl
  | a :: l => by have := both_len l; simp only [bothPs, List.flatMap_cons, List.length_append, List.length_cons, List.length_nil] at *; omega
set_option maxHeartbeats 2000000 in
theorem spread_ret (base : Int) (l : List It) (sl : Value) (hm : l.length ≤ 1000000) (w0 : World) (hP : ItsAt w0 sl l) :
    Ret Tryz.prog 86 #[.int .u64 base, sl] w0 fun v w' => v = .int .u64 (spr base l) ∧ Only [] w0 w' := by
  obtain ⟨ad, cap, rfl, hD⟩ := hP
  rw [List.length_map] at *
  have hs := St.nil w0
  refine ret_of_xc Tryz.func86 (by kernel_rfl) rfl Tryz.ntmps86 rfl rfl rfl ?_
  repeat' (first|refine vs (k:=?_)|refine ps (k:=?_)|((first|refine st hs (k:=?_)|refine stA hs (k:=?_));intro w hs)|((first|refine al hs (k:=?_)|refine bx hs (k:=?_)|refine bs hs (k:=?_));intro b w hz hs)|refine qRg ?_|refine Nx.h ?_|refine qBo ?_|refine qCt ?_|refine qCf ?_|((with_reducible apply xs_guard);exact rfl;exact rfl;intro c hc;(fail_if_success have:true=c:=hc);(fail_if_success have:false=c:=hc);cases c)|(refine xc_if rfl (fun hc=>?_) (fun hc=>?_))|(refine xc_cond rfl (fun hc=>?_) (fun hc=>?_)))
  refine xc_cutB (fun (s : Value × Value) => [(0, .int .u64 base), (5, s.1), (6, s.2)]) (fun s w => Only [] w0 w ∧ Two w0 w s.1 s.2 (places l) (bothPs l)) ?_ ?_
  · refine xc_loopS (fun (s : Nat × Value × Value) => [(0, .int .u64 base), (5, s.2.1), (6, s.2.2), (13, .slice ad l.length cap), (14, .int .i64 (l.length : Nat)), (15, .int .i64 (s.1 : Nat))])
      (fun s w => s.1 ≤ l.length ∧ Only [] w0 w ∧ Two w0 w s.2.1 s.2.2 (places (l.take s.1)) (bothPs (l.take s.1))) (fun s => l.length - s.1) (0, .slice none 0 0, .slice none 0 0) (by (repeat (first | exact agree_nil | (apply agree_cons; exact rfl)))) ⟨Nat.zero_le _, hs.only0 rfl, [], [], .inl ⟨rfl, rfl, rfl, rfl⟩, .inl ⟨rfl, rfl, rfl, rfl⟩, by simp, by simp⟩ fun s env wl ⟨hi, ho0, hT⟩ => ?_
    obtain ⟨i, v5, v6⟩ := s
    simp only at hi hT
    clear hs
    have hs := St.nil wl
    repeat' (first|refine vs (k:=?_)|refine ps (k:=?_)|((first|refine st hs (k:=?_)|refine stA hs (k:=?_));intro w hs)|((first|refine al hs (k:=?_)|refine bx hs (k:=?_)|refine bs hs (k:=?_));intro b w hz hs)|refine qRg ?_|refine Nx.h ?_|refine qBo ?_|refine qCt ?_|refine qCf ?_|((with_reducible apply xs_guard);exact rfl;exact rfl;intro c hc;(fail_if_success have:true=c:=hc);(fail_if_success have:false=c:=hc);cases c)|(refine xc_if rfl (fun hc=>?_) (fun hc=>?_))|(refine xc_cond rfl (fun hc=>?_) (fun hc=>?_)))
    · have hlt : i < l.length := by omega
      obtain ⟨b, off, cs, fz, rfl, _, hb, hcs⟩ := hD (fun h => by simp at h; subst h; cases hlt)
      have hpk := hcs i (It.cells l[i]) (by rw [List.getElem?_map, List.getElem?_eq_getElem hlt]; rfl)
      have ei := nx64 (m := l.length) hlt (by omega)
      have e1 : places (l.take (i + 1)) = places (l.take i) ++ [l[i].p] := by rw [take_next hlt]; unfold places; rw [List.map_append]; rfl
      have e2 : bothPs (l.take (i + 1)) = bothPs (l.take i) ++ [l[i].p, l[i].d] := by rw [take_next hlt]; unfold bothPs; rw [List.flatMap_append]; rfl
      have n1 : (places (l.take i)).length = i := by simp [places]; omega
      have n2 : (bothPs (l.take i)).length = 2 * i := by rw [both_len]; simp; omega
      generalize l[i] = q at *
      generalize places (l.take i) = A at *
      generalize bothPs (l.take i) = B at *
      refine ix (h0 := (by omega)) (h1 := (by omega)) (k := ?_)
      refine lhK (ho0.block hb (by simp)) hpk (k := ?_)
      refine al hs (k := ?_); intro b8 w8 hz hs
      repeat' (first|refine vs (k:=?_)|refine ps (k:=?_)|((first|refine st hs (k:=?_)|refine stA hs (k:=?_));intro w hs)|((first|refine al hs (k:=?_)|refine bx hs (k:=?_)|refine bs hs (k:=?_));intro b w hz hs)|refine qRg ?_|refine Nx.h ?_|refine qBo ?_|refine qCt ?_|refine qCf ?_|((with_reducible apply xs_guard);exact rfl;exact rfl;intro c hc;(fail_if_success have:true=c:=hc);(fail_if_success have:false=c:=hc);cases c)|(refine xc_if rfl (fun hc=>?_) (fun hc=>?_))|(refine xc_cond rfl (fun hc=>?_) (fun hc=>?_)))
      obtain ⟨G1, G2, h1, h2, hd, hn⟩ := hT
      have hl1 := h1.lt
      have hl2 := h2.lt
      refine dr [] hs (k := ?_); intro hX w hs
      refine tk 0 hX (k := ?_)
      refine tk 1 hX (k := ?_)
      refine tk 2 hX (k := ?_)
      refine tk 5 hX (k := ?_)
      refine tk 6 hX (k := ?_)
      refine tk 7 hX (k := ?_)
      refine tk 8 hX (k := ?_)
      refine tk 9 hX (k := ?_)
      refine pd0S 10 29 (q.p.cells ++ q.d.cells) hs (k := ?_); intro f X w hp; have hs := hp.st
      apply xa_pend 3 10 (f := f) (X := X) hX hp; exact rfl; exact rfl; (first | (apply makes_alloc tabOk; exact rfl) | (apply makes_slice tabOk; exact rfl; exact rfl; exact rfl; exact rfl; exact rfl; (intro X; ((repeat (first | exact Bld.nil | (apply Bld.one; exact rfl; (conv => lhs; whnf); exact rfl; (repeat (first | exact PutL.nil | apply PutL.skip | apply PutL.cons))) | (apply Bld.agg; exact rfl; exact rfl; exact rfl; (repeat (first | exact PutL.nil | apply PutL.skip | apply PutL.cons))))))))); kernel_rfl; kernel_rfl; kernel_rfl; kernel_rfl; (intro X Y; (repeat (first | exact pgg_base | refine pgg_step ?_ (by exact rfl)))); (intro w' hs; ((first | exact se_hold hs.hold | exact se_hold (hold_sim hs.hold rfl) | exact se_hold (hold_sim hs.hold.tail rfl) | exact se_hold (hR hs rfl) | exact se_hold hs.hold.tail | exact se_hold hs.hold.tail.tail | exact se_hold hs.hold.tail.tail.tail | exact se_done rfl))); intro f X w hp; have hs := hp.st
      refine bsP hp (k := ?_); intro b3 w3 _ hp; replace hs := hp.st
      repeat' (first|refine vs (k:=?_)|refine ps (k:=?_)|((first|refine st hs (k:=?_)|refine stA hs (k:=?_));intro w hs)|((first|refine al hs (k:=?_)|refine bx hs (k:=?_)|refine bs hs (k:=?_));intro b w hz hs)|refine qRg ?_|refine Nx.h ?_|refine qBo ?_|refine qCt ?_|refine qCf ?_|((with_reducible apply xs_guard);exact rfl;exact rfl;intro c hc;(fail_if_success have:true=c:=hc);(fail_if_success have:false=c:=hc);cases c)|(refine xc_if rfl (fun hc=>?_) (fun hc=>?_))|(refine xc_cond rfl (fun hc=>?_) (fun hc=>?_)))
      refine dn (k := ?_)
      apply xa_pend 4 10 (f := f) (X := X) hX hp; exact rfl; exact rfl; (first | (apply makes_alloc tabOk; exact rfl) | (apply makes_slice tabOk; exact rfl; exact rfl; exact rfl; exact rfl; exact rfl; (intro X; ((repeat (first | exact Bld.nil | (apply Bld.one; exact rfl; (conv => lhs; whnf); exact rfl; (repeat (first | exact PutL.nil | apply PutL.skip | apply PutL.cons))) | (apply Bld.agg; exact rfl; exact rfl; exact rfl; (repeat (first | exact PutL.nil | apply PutL.skip | apply PutL.cons))))))))); kernel_rfl; kernel_rfl; kernel_rfl; kernel_rfl; (intro X Y; (repeat (first | exact pgg_base | refine pgg_step ?_ (by exact rfl)))); (intro w' hs; ((first | exact se_hold hs.hold | exact se_hold (hold_sim hs.hold rfl) | exact se_hold (hold_sim hs.hold.tail rfl) | exact se_hold (hR hs rfl) | exact se_hold hs.hold.tail | exact se_hold hs.hold.tail.tail | exact se_hold hs.hold.tail.tail.tail | exact se_done rfl))); intro f X w hp; have hs := hp.st
      have hb3 := hs.get At.head
      have k1 := h1.keep hs.only (by simp [olds, D0])
      refine xs_appendW tabOk rfl rfl rfl rfl rfl rfl rfl (by decide) (lit_cells (news := q.p.cells) hb3) (by simp [Value.oneCell']) k1 (by omega) (by omega) ?_
      intro v5' w4 ⟨G1', h3, hG1'⟩ ho4
      have hz3 := hs.size
      have hp := hp.callN ho4 hl1 rfl rfl (J := fun w => SlV w 32 3 v5' (A.length + 1) (flatP A ++ q.p.cells) G1') h3 (fun _ _ ho h => h.keep ho (by simp))
      replace hs := hp.st
      repeat' (first|refine vs (k:=?_)|refine ps (k:=?_)|((first|refine st hs (k:=?_)|refine stA hs (k:=?_));intro w hs)|((first|refine al hs (k:=?_)|refine bx hs (k:=?_)|refine bs hs (k:=?_));intro b w hz hs)|refine qRg ?_|refine Nx.h ?_|refine qBo ?_|refine qCt ?_|refine qCf ?_|((with_reducible apply xs_guard);exact rfl;exact rfl;intro c hc;(fail_if_success have:true=c:=hc);(fail_if_success have:false=c:=hc);cases c)|(refine xc_if rfl (fun hc=>?_) (fun hc=>?_))|(refine xc_cond rfl (fun hc=>?_) (fun hc=>?_)))
      refine dn (k := ?_)
      apply xa_pendE 10 (f := f) (X := X) hX hp; exact rfl; (first | (apply makes_alloc tabOk; exact rfl) | (apply makes_slice tabOk; exact rfl; exact rfl; exact rfl; exact rfl; exact rfl; (intro X; ((repeat (first | exact Bld.nil | (apply Bld.one; exact rfl; (conv => lhs; whnf); exact rfl; (repeat (first | exact PutL.nil | apply PutL.skip | apply PutL.cons))) | (apply Bld.agg; exact rfl; exact rfl; exact rfl; (repeat (first | exact PutL.nil | apply PutL.skip | apply PutL.cons))))))))); kernel_rfl; kernel_rfl; (intro X Y; (repeat (first | exact pgg_base | refine pgg_step ?_ (by exact rfl)))); (intro w' hs; ((first | exact se_hold hs.hold | exact se_hold (hold_sim hs.hold rfl) | exact se_hold (hold_sim hs.hold.tail rfl) | exact se_hold (hR hs rfl) | exact se_hold hs.hold.tail | exact se_hold hs.hold.tail.tail | exact se_hold hs.hold.tail.tail.tail | exact se_done rfl))); intro b w hI hs
      refine dt 11 hX (k := ?_)
      have hb10 := hs.get At.head
      have k2 := h2.keep hs.only (fun k hk hm => by simp [olds, D0] at hm; exact (hd k hm).2 hk)
      refine xs_appendW tabOk rfl rfl rfl rfl rfl rfl rfl (by decide) (lit_cells (news := q.p.cells ++ q.d.cells) hb10) (by simp [Value.oneCell']) k2 (by omega) (by omega) ?_
      intro v6' w6 ⟨G2', h4, hG2'⟩ ho6
      have hz5 := hs.size
      have h5 := hI.keep ho6 (fun k hk hm => by
        rcases hG1' k hk with h | h
        · exact (hd k h).2 hm
        · have := hl2 k hm; omega)
      have hlt5 := hI.lt
      replace hs := hs.callN ho6 hl2 rfl rfl
      repeat' (first|refine vs (k:=?_)|refine ps (k:=?_)|((first|refine st hs (k:=?_)|refine stA hs (k:=?_));intro w hs)|((first|refine al hs (k:=?_)|refine bx hs (k:=?_)|refine bs hs (k:=?_));intro b w hz hs)|refine qRg ?_|refine Nx.h ?_|refine qBo ?_|refine qCt ?_|refine qCf ?_|((with_reducible apply xs_guard);exact rfl;exact rfl;intro c hc;(fail_if_success have:true=c:=hc);(fail_if_success have:false=c:=hc);cases c)|(refine xc_if rfl (fun hc=>?_) (fun hc=>?_))|(refine xc_cond rfl (fun hc=>?_) (fun hc=>?_)))
      refine dn (k := ?_)
      refine tk 12 hX (k := ?_)
      refine tk 13 hX (k := ?_)
      refine en (k := ?_)
      repeat' (first|refine vs (k:=?_)|refine ps (k:=?_)|((first|refine st hs (k:=?_)|refine stA hs (k:=?_));intro w hs)|((first|refine al hs (k:=?_)|refine bx hs (k:=?_)|refine bs hs (k:=?_));intro b w hz hs)|refine qRg ?_|refine Nx.h ?_|refine qBo ?_|refine qCt ?_|refine qCf ?_|((with_reducible apply xs_guard);exact rfl;exact rfl;intro c hc;(fail_if_success have:true=c:=hc);(fail_if_success have:false=c:=hc);cases c)|(refine xc_if rfl (fun hc=>?_) (fun hc=>?_))|(refine xc_cond rfl (fun hc=>?_) (fun hc=>?_)))
      have hz6 := hs.size
      have hz0 := ho0.size
      refine loopS_next (i + 1, v5', v6') (by show l.length - (i + 1) < l.length - i; omega) (by (repeat (first | exact agree_nil | (apply agree_cons; first | exact rfl | exact congrArg (Value.int .i64) ei)))) ⟨by show i + 1 ≤ l.length; omega, ho0.step (hs.forgetNew.forgetNew.forgetNew.only) ?_, G1', G2', ?_, ?_, ?_, ?_⟩
      · intro k hk
        simp [olds, D0] at hk
        rcases hk with hk | hk
        · exact .inr (hn k hk)
        · exact .inr (hd k hk).1
      · simp only [e1]; rw [flatP_app, List.length_append]; exact h5
      · simp only [e2]; rw [flatP_app, List.length_append]; exact h4
      · intro k hk
        have h7 := hlt5 k hk
        refine ⟨?_, fun hm => ?_⟩
        · rcases hG1' k hk with h | h
          · exact (hd k h).1
          · omega
        · rcases hG2' k hm with h | h
          · rcases hG1' k hk with h' | h'
            · exact (hd k h').2 h
            · have := hl2 k h; omega
          · omega
      · intro k hk
        rcases hG2' k hk with h | h
        · exact hn k h
        · omega
    · have hc' : ¬ ((i : Int) < l.length) := hc
      have e : i = l.length := by omega
      subst e
      rw [List.take_length] at hT
      exact cutB_exit (v5, v6) (by (repeat (first | exact agree_nil | (apply agree_cons; exact rfl)))) ⟨ho0, hT⟩
  · rintro ⟨v5, v6⟩ env w ⟨ho0, G1, G2, h1, h2, hd, hn⟩
    simp only at h1 h2
    clear hs
    have hs := St.nil w
    have nP : (places l).length ≤ 1000000 := by simp [places]; exact hm
    have nB : (bothPs l).length ≤ 2000000 := by rw [both_len]; omega
    have l1 := h1.ls rfl (by simp) (flatP_len _)
    have l2 := h2.ls rfl (by simp) (flatP_len _)
    have m1 := minL_in (l := sinces base (places l)) (fun d hd => by obtain ⟨p, _, rfl⟩ := List.mem_map.1 hd; exact sn_in _ _)
    have m2 := maxL_in (l := sinces base (bothPs l)) (fun d hd => by obtain ⟨p, _, rfl⟩ := List.mem_map.1 hd; exact sn_in _ _)
    repeat' (first|refine vs (k:=?_)|refine ps (k:=?_)|((first|refine st hs (k:=?_)|refine stA hs (k:=?_));intro w hs)|((first|refine al hs (k:=?_)|refine bx hs (k:=?_)|refine bs hs (k:=?_));intro b w hz hs)|refine qRg ?_|refine Nx.h ?_|refine qBo ?_|refine qCt ?_|refine qCf ?_|((with_reducible apply xs_guard);exact rfl;exact rfl;intro c hc;(fail_if_success have:true=c:=hc);(fail_if_success have:false=c:=hc);cases c)|(refine xc_if rfl (fun hc=>?_) (fun hc=>?_))|(refine xc_cond rfl (fun hc=>?_) (fun hc=>?_)))
    (with_reducible apply xs_call); exact rfl; exact rfl; exact floors_ret base (places l) v5 (by omega) _ l1
    rintro v w' ⟨rfl, ho⟩; replace hs := hs.call0 ho; repeat' (first|refine vs (k:=?_)|refine ps (k:=?_)|((first|refine st hs (k:=?_)|refine stA hs (k:=?_));intro w hs)|((first|refine al hs (k:=?_)|refine bx hs (k:=?_)|refine bs hs (k:=?_));intro b w hz hs)|refine qRg ?_|refine Nx.h ?_|refine qBo ?_|refine qCt ?_|refine qCf ?_|((with_reducible apply xs_guard);exact rfl;exact rfl;intro c hc;(fail_if_success have:true=c:=hc);(fail_if_success have:false=c:=hc);cases c)|(refine xc_if rfl (fun hc=>?_) (fun hc=>?_))|(refine xc_cond rfl (fun hc=>?_) (fun hc=>?_)))
    (with_reducible apply xs_call); exact rfl; exact rfl; exact floors_ret base (bothPs l) v6 (by omega) _ (l2.only (hs.only0 rfl))
    rintro v w' ⟨rfl, ho⟩; replace hs := hs.call0 ho; repeat' (first|refine vs (k:=?_)|refine ps (k:=?_)|((first|refine st hs (k:=?_)|refine stA hs (k:=?_));intro w hs)|((first|refine al hs (k:=?_)|refine bx hs (k:=?_)|refine bs hs (k:=?_));intro b w hz hs)|refine qRg ?_|refine Nx.h ?_|refine qBo ?_|refine qCt ?_|refine qCf ?_|((with_reducible apply xs_guard);exact rfl;exact rfl;intro c hc;(fail_if_success have:true=c:=hc);(fail_if_success have:false=c:=hc);cases c)|(refine xc_if rfl (fun hc=>?_) (fun hc=>?_))|(refine xc_cond rfl (fun hc=>?_) (fun hc=>?_)))
    first | refine rt (hq := ?_) | refine rt' (hq := ?_)
    refine ⟨?_, ho0.trans (hs.only0 rfl)⟩
    refine int_cong ?_
    unfold spr
    obtain ⟨a1, a2⟩ := m1
    obtain ⟨a3, a4⟩ := m2
    simp only [wrap_u64]
    omega
end Go.Proofs.YtegoaabjccignaaGreatDoorX

namespace Go.Proofs.YtegoaabjccignaaGreatDoorX
def valD : List Int → Int
  | [] => 0
  | d :: ds => d + 10000 * valD ds
def DOk (ds : List Int) : Prop := ∀ d ∈ ds, 0 ≤ d ∧ d < 10000
def Trim (ds : List Int) : Prop := ∀ d, ds.getLast? = some d → d ≠ 0
theorem valD_append : ∀ (xs ys : List Int), valD (xs ++ ys) = valD xs + 10000 ^ xs.length * valD ys
  | [], ys => by simp [valD]
  | x :: xs, ys => by
    simp only [List.cons_append, valD, valD_append xs ys, List.length_cons]
    rw [Int.pow_succ]
    grind
theorem valD_snoc (xs : List Int) (d : Int) : valD (xs ++ [d]) = valD xs + 10000 ^ xs.length * d := by rw [valD_append]; simp [valD]
theorem valD_nonneg : ∀ {ds : List Int}, DOk ds → 0 ≤ valD ds
  | [], _ => Int.le_refl _
  | d :: ds, h => by
    have := h d (by simp)
    have := valD_nonneg (ds := ds) fun x hx => h x (List.mem_cons_of_mem _ hx)
    simp only [valD]; omega
theorem valD_lt : ∀ {ds : List Int}, DOk ds → valD ds < 10000 ^ ds.length
  | [], _ => by simp [valD]
  | d :: ds, h => by
    have := h d (by simp)
    have := valD_lt (ds := ds) fun x hx => h x (List.mem_cons_of_mem _ hx)
    simp only [valD, List.length_cons, Int.pow_succ]; omega
theorem DOk.nil : DOk [] := by intro d h; cases h
theorem DOk.snoc {ds : List Int} {d : Int} (h : DOk ds) (h0 : 0 ≤ d) (h1 : d < 10000) : DOk (ds ++ [d]) := fun x hx => by
  rcases List.mem_append.1 hx with hx | hx
  · exact h x hx
  · simp at hx; subst hx; exact ⟨h0, h1⟩
theorem pow_pos' (n : Nat) : (0 : Int) < 10000 ^ n := Int.pow_pos (by decide)
theorem pow_mono' {n m : Nat} (h : n ≤ m) : (10000 : Int) ^ n ≤ 10000 ^ m := by
  have := Nat.pow_le_pow_right (show 0 < 10000 by decide) h
  have e : ∀ k : Nat, ((10000 ^ k : Nat) : Int) = (10000 : Int) ^ k := fun k => by simp
  rw [← e n, ← e m]
  omega
theorem valD_ge {ds : List Int} (h : DOk ds) (ht : Trim ds) (hn : ds ≠ []) : 10000 ^ (ds.length - 1) ≤ valD ds := by
  obtain ⟨init, last, rfl⟩ : ∃ i l, ds = i ++ [l] := ⟨ds.dropLast, ds.getLast hn, (List.dropLast_concat_getLast hn).symm⟩
  have h1 := h last (by simp)
  have h2 : last ≠ 0 := ht last (by simp)
  have h3 := valD_nonneg (ds := init) fun x hx => h x (by simp [hx])
  rw [valD_snoc]
  have h4 := pow_pos' init.length
  have : (10000 : Int) ^ init.length * 1 ≤ 10000 ^ init.length * last := Int.mul_le_mul_of_nonneg_left (by omega) (by omega)
  simp only [List.length_append, List.length_singleton, Nat.add_sub_cancel]
  omega
theorem valD_zero {ds : List Int} (h : DOk ds) (ht : Trim ds) : valD ds = 0 ↔ ds = [] := by
  refine ⟨fun hv => ?_, fun e => by subst e; rfl⟩
  by_cases hn : ds = []
  · exact hn
  · have := valD_ge h ht hn
    have := pow_pos' (ds.length - 1)
    omega
theorem len_le {ds : List Int} (h : DOk ds) (ht : Trim ds) {n : Nat} (hv : valD ds < 10000 ^ n) : ds.length ≤ n := by
  by_cases hn : ds = []
  · subst hn; simp
  · have h1 := valD_ge h ht hn
    rcases Nat.lt_or_ge n ds.length with hl | hl
    · have h2 : (10000 : Int) ^ n ≤ 10000 ^ (ds.length - 1) := pow_mono' (by omega)
      omega
    · exact hl
def dig (ds : List Int) (i : Nat) : Int := ds.getD i 0
theorem dig_rng {ds : List Int} (h : DOk ds) (i : Nat) : 0 ≤ dig ds i ∧ dig ds i < 10000 := by
  unfold dig
  rw [List.getD_eq_getElem?_getD]
  cases he : ds[i]? with
  | none => simp
  | some d => exact h d (List.mem_of_getElem? he)
theorem dig_ge {ds : List Int} {i : Nat} (h : ds.length ≤ i) : dig ds i = 0 := by
  unfold dig; rw [List.getD_eq_getElem?_getD, List.getElem?_eq_none h]; rfl
theorem valD_drop (ds : List Int) (i : Nat) : valD (ds.drop i) = dig ds i + 10000 * valD (ds.drop (i + 1)) := by
  rcases Nat.lt_or_ge i ds.length with h | h
  · rw [List.drop_eq_getElem_cons h]
    simp [valD, dig, h]
  · rw [List.drop_of_length_le h, List.drop_of_length_le (by omega), dig_ge h]; simp [valD]
theorem valD_take (ds : List Int) (i : Nat) : valD (ds.take (i + 1)) = valD (ds.take i) + 10000 ^ i * dig ds i := by
  rcases Nat.lt_or_ge i ds.length with h | h
  · have : ds.take (i + 1) = ds.take i ++ [ds[i]] := by simp
    rw [this, valD_snoc]
    simp [dig, h, Nat.min_eq_left (Nat.le_of_lt h)]
  · rw [List.take_of_length_le h, List.take_of_length_le (by omega), dig_ge h]; simp
end Go.Proofs.YtegoaabjccignaaGreatDoorX

namespace Go.Proofs.YtegoaabjccignaaGreatDoorX
open Go Go.RowKit
attribute [local irreducible] XS XC XA thenE blockE retE loopE loopS cutB cutN doneE SE
def DAt (w : World) (sl : Value) (ds : List Int) : Prop :=
  ∃ ad cap, sl = .slice ad ds.length cap ∧ (ds ≠ [] → ∃ (b off : Nat) (cs : List Value) (fz : Nat × Nat), ad = some ⟨b, off, none⟩ ∧ ds.length ≤ cap ∧ w.heap[b]? = some (.cells cs.toArray 3 fz) ∧ ∀ i d, ds[i]? = some d → cs[off + i]? = some (.int .i64 d))
def sg (neg : Bool) (n : Int) : Int := bif neg then -n else n
def BigAt (w : World) (v : Value) (x : Int) : Prop := ∃ neg sl ds, v = .agg #[.bool neg, sl] ∧ DAt w sl ds ∧ DOk ds ∧ Trim ds ∧ (ds = [] → neg = false) ∧ x = sg neg (valD ds)
theorem DAt.only {w w' : World} {sl : Value} {ds : List Int} (h : DAt w sl ds) (ho : Only [] w w') : DAt w' sl ds := by
  obtain ⟨ad, cap, rfl, h⟩ := h
  refine ⟨ad, cap, rfl, fun hn => ?_⟩
  obtain ⟨b, off, cs, fz, h1, h2, h3, h4⟩ := h hn
  exact ⟨b, off, cs, fz, h1, h2, ho.block h3 (by simp), h4⟩
theorem BigAt.only {w w' : World} {v : Value} {x : Int} (h : BigAt w v x) (ho : Only [] w w') : BigAt w' v x := by
  obtain ⟨neg, sl, ds, h1, h2, h3⟩ := h
  exact ⟨neg, sl, ds, h1, h2.only ho, h3⟩
theorem i64_small {n : Int} (h0 : -9223372036854775808 ≤ n) (h1 : n < 9223372036854775808) : IntKind.i64.wrap n = n := by rw [wrap_i64]; omega
theorem dig_get {ds : List Int} {i : Nat} (h : i < ds.length) : ds[i]? = some (dig ds i) := by simp [dig, h]
theorem take_dig {ds : List Int} {k : Nat} (h : dig ds k = 0) : valD (ds.take (k + 1)) = valD (ds.take k) := by rw [valD_take, h]; simp
end Go.Proofs.YtegoaabjccignaaGreatDoorX

namespace Go.Proofs.YtegoaabjccignaaGreatDoorX
open Go Go.RowKit
attribute [local irreducible] XS XC XA thenE blockE retE loopE loopS cutB cutN doneE SE
def ints (xs : List Int) : List Value := xs.map (Value.int .i64)
theorem ints_snoc (xs : List Int) (d : Int) : ints xs ++ [.int .i64 d] = ints (xs ++ [d]) := by simp [ints]
theorem own_dat {wb : World} {v : Value} {n : Nat} {xs : List Int} {H : List Ent} {w : World} {D : Ctx} (h : OwnS wb D H 3 1 v n (ints xs) w) (hn : n = xs.length) : DAt w v xs := by
  subst hn
  rcases h with ⟨rfl, h0, hx, hs⟩ | ⟨g, cap, cur, rfl, hc, hl, hxl, ht, hs⟩
  · have : xs = [] := by simpa using h0
    subst this
    exact ⟨none, 0, rfl, fun h => absurd rfl h⟩
  · refine ⟨_, cap, rfl, fun _ => ⟨g, 0, cur, (0, 0), rfl, hc, hs.get At.head, fun i d hi => ?_⟩⟩
    have h1 : (ints xs)[i]? = some (.int .i64 d) := by simp [ints, hi]
    rw [← ht, List.getElem?_take] at h1
    split at h1
    · simpa using h1
    · cases h1
theorem OwnS.st {wb : World} {v : Value} {n k e : Nat} {xs : List Value} {H : List Ent} {w : World} {D : Ctx} (h : OwnS wb D H e k v n xs w) : St wb D H w := by
  rcases h with ⟨_, _, _, hs⟩ | ⟨g, cap, cur, _, _, _, _, _, hs⟩
  · exact hs
  · exact hs.forgetNew
structure Plus (A B xs : List Int) (i : Nat) (c : Int) : Prop where
  len : xs.length = i
  ok : DOk xs
  c0 : 0 ≤ c
  c1 : c ≤ 1
  le : i ≤ max A.length B.length + 1
  last : max A.length B.length < i → c = 0
  sum : valD xs + 10000 ^ i * c = valD (A.take i) + valD (B.take i)
theorem plus_next {A B xs : List Int} {i : Nat} {c : Int} (hA : DOk A) (hB : DOk B) (h : Plus A B xs i c) (hgo : i < A.length ∨ i < B.length ∨ 0 < c) :
    Plus A B (xs ++ [(dig A i + dig B i + c) % 10000]) (i + 1) ((dig A i + dig B i + c) / 10000) := by
  obtain ⟨h1, h2, h3, h4, h5, h6, h7⟩ := h
  have a1 := dig_rng hA i
  have b1 := dig_rng hB i
  refine ⟨by simp [h1], h2.snoc (by omega) (by omega), by omega, by omega, by omega, fun hl => ?_, ?_⟩
  · have : max A.length B.length ≤ i := by omega
    rw [dig_ge (show A.length ≤ i by omega), dig_ge (show B.length ≤ i by omega)]
    omega
  · rw [valD_snoc, h1, valD_take, valD_take, Int.pow_succ]
    have e := Int.mul_ediv_add_emod (dig A i + dig B i + c) 10000
    generalize (dig A i + dig B i + c) / 10000 = q at *
    generalize (dig A i + dig B i + c) % 10000 = r at *
    have : (10000 : Int) ^ i * r + 10000 ^ i * 10000 * q = 10000 ^ i * (dig A i + dig B i + c) := by rw [← e]; grind
    have e3 : (10000 : Int) ^ i * (dig A i + dig B i + c) = 10000 ^ i * dig A i + 10000 ^ i * dig B i + 10000 ^ i * c := by grind
    omega
theorem plus_end {A B xs : List Int} {i : Nat} {c : Int} (h : Plus A B xs i c) (h1 : A.length ≤ i) (h2 : B.length ≤ i) (h3 : ¬ 0 < c) : valD xs = valD A + valD B := by
  have hs := h.sum
  have hc : c = 0 := by have := h.c0; omega
  rw [hc, List.take_of_length_le h1, List.take_of_length_le h2] at hs
  simpa using hs
end Go.Proofs.YtegoaabjccignaaGreatDoorX

namespace Go.Proofs.YtegoaabjccignaaGreatDoorX
structure OrdOn {α : Type} (lt : α → α → Bool) (S : α → Prop) : Prop where
  irr : ∀ a, S a → lt a a = false
  tr : ∀ a b c, S a → S b → S c → lt a b = true → lt b c = true → lt a c = true
  tri : ∀ a b, S a → S b → lt a b = false → lt b a = false → a = b
inductive RB (α : Type) where
  | nil
  | node (l : RB α) (x : α) (r : RB α) (c : Bool)
namespace RB
variable {α : Type}
def red : RB α → Bool
  | nil => false
  | node _ _ _ c => c
def left : RB α → RB α
  | nil => nil
  | node l _ _ _ => l
def right : RB α → RB α
  | nil => nil
  | node _ _ r _ => r
def list : RB α → List α
  | nil => []
  | node l x r _ => l.list ++ x :: r.list
def depth : RB α → Nat
  | nil => 0
  | node l _ r _ => 1 + max l.depth r.depth
def toLeft : RB α → RB α
  | node l x (node rl y rr _) c => node (node l x rl true) y rr c
  | t => t
def toRight : RB α → RB α
  | node (node ll y lr _) x r c => node ll y (node lr x r true) c
  | t => t
def flip : RB α → RB α
  | node (node a x b c1) y (node d z e c2) c => node (node a x b !c1) y (node d z e !c2) !c
  | t => t
def mend1 (t : RB α) : RB α := bif t.right.red && !t.left.red then toLeft t else t
def mend2 (t : RB α) : RB α := bif t.left.red && t.left.left.red then toRight t else t
def mend3 (t : RB α) : RB α := bif t.left.red && t.right.red then flip t else t
def mend (t : RB α) : RB α := mend3 (mend2 (mend1 t))
def ins (lt : α → α → Bool) : RB α → α → RB α
  | nil, x => node nil x nil true
  | node l y r c, x => bif lt x y then mend (node (ins lt l x) y r c) else mend (node l y (ins lt r x) c)
def blacken : RB α → RB α
  | nil => nil
  | node l x r _ => node l x r false
theorem left_node (l : RB α) (x : α) (r : RB α) (c : Bool) : (node l x r c).left = l := rfl
theorem right_node (l : RB α) (x : α) (r : RB α) (c : Bool) : (node l x r c).right = r := rfl
theorem red_node (l : RB α) (x : α) (r : RB α) (c : Bool) : (node l x r c).red = c := rfl
theorem list_toLeft : ∀ t : RB α, (toLeft t).list = t.list
  | nil => rfl
  | node l x nil c => rfl
  | node l x (node rl y rr _) c => by simp [toLeft, list]
theorem list_toRight : ∀ t : RB α, (toRight t).list = t.list
  | nil => rfl
  | node nil x r c => rfl
  | node (node ll y lr _) x r c => by simp [toRight, list]
theorem list_flip : ∀ t : RB α, (flip t).list = t.list
  | nil => rfl
  | node nil x r c => rfl
  | node (node a x b _) y nil c => rfl
  | node (node a x b _) y (node d z e _) c => by simp [flip, list]
theorem list_mend (t : RB α) : (mend t).list = t.list := by
  unfold mend mend3 mend2 mend1
  repeat' (cases (_ && _) <;> simp only [cond_true, cond_false])
  all_goals simp only [list_toLeft, list_toRight, list_flip]
theorem list_blacken : ∀ t : RB α, (blacken t).list = t.list
  | nil => rfl
  | node l x r c => rfl
def insL (lt : α → α → Bool) (x : α) : List α → List α
  | [] => [x]
  | y :: l => bif lt x y then x :: y :: l else y :: insL lt x l
theorem insL_left {lt : α → α → Bool} {x y : α} (h : lt x y = true) (R : List α) : ∀ L : List α, insL lt x (L ++ y :: R) = insL lt x L ++ y :: R
  | [] => by simp [insL, h]
  | z :: L => by
    simp only [List.cons_append, insL]
    cases lt x z <;> simp [insL_left h R L]
theorem insL_right {lt : α → α → Bool} {x : α} (R : List α) : ∀ L : List α, (∀ z ∈ L, lt x z = false) → insL lt x (L ++ R) = L ++ insL lt x R
  | [], _ => rfl
  | z :: L, h => by
    simp only [List.cons_append, insL, h z List.mem_cons_self, cond_false]
    rw [insL_right R L fun z hz => h z (List.mem_cons_of_mem _ hz)]
def Srt (lt : α → α → Bool) (l : List α) : Prop := l.Pairwise fun a b => lt a b = true
theorem srt_node {lt : α → α → Bool} {L R : List α} {y : α} (h : Srt lt (L ++ y :: R)) : Srt lt L ∧ Srt lt R ∧ (∀ z ∈ L, lt z y = true) ∧ (∀ z ∈ R, lt y z = true) ∧ ∀ a ∈ L, ∀ b ∈ R, lt a b = true := by
  unfold Srt at *
  rw [List.pairwise_append, List.pairwise_cons] at h
  obtain ⟨h1, ⟨h2, h3⟩, h4⟩ := h
  exact ⟨h1, h3, fun z hz => h4 z hz y List.mem_cons_self, h2, fun a ha b hb => h4 a ha b (List.mem_cons_of_mem _ hb)⟩
theorem asym {lt : α → α → Bool} {S : α → Prop} (ho : OrdOn lt S) {a b : α} (ha : S a) (hb : S b) (h : lt a b = true) : lt b a = false := by
  cases h2 : lt b a
  · rfl
  · have h3 := ho.tr a b a ha hb ha h h2
    rw [ho.irr a ha] at h3
    cases h3
theorem list_ins {lt : α → α → Bool} {S : α → Prop} (ho : OrdOn lt S) {x : α} (hx : S x) : ∀ t : RB α, Srt lt t.list → (∀ z ∈ t.list, S z) → (ins lt t x).list = insL lt x t.list
  | nil, _, _ => rfl
  | node l y r c, hs, hS => by
    obtain ⟨h1, h2, h3, h4, h5⟩ := srt_node hs
    simp only [list, List.mem_append, List.mem_cons] at hS
    have hl := list_ins ho hx l h1 fun z hz => hS z (.inl hz)
    have hr := list_ins ho hx r h2 fun z hz => hS z (.inr (.inr hz))
    have hy := hS y (.inr (.inl rfl))
    simp only [ins, list]
    cases hxy : lt x y
    · rw [cond_false, list_mend]
      simp only [list, hr]
      rw [insL_right _ l.list fun z hz => ?_]
      · simp [insL, hxy]
      · have hz' := hS z (.inl hz)
        cases hxz : lt x z
        · rfl
        · rw [ho.tr x z y hx hz' hy hxz (h3 z hz)] at hxy; cases hxy
    · rw [cond_true, list_mend]
      simp only [list, hl]
      rw [insL_left hxy]
/-! ### Balance -/
inductive Ok : RB α → Nat → Prop
  | nil : Ok nil 0
  | black {l r : RB α} {x : α} {h : Nat} : Ok l h → Ok r h → r.red = false → Ok (node l x r false) (h + 1)
  | red {l r : RB α} {x : α} {h : Nat} : Ok l h → Ok r h → l.red = false → r.red = false → Ok (node l x r true) h
inductive Alm : RB α → Nat → Prop
  | ok {t : RB α} {h : Nat} : Ok t h → Alm t h
  | rr {l r : RB α} {x : α} {h : Nat} : Ok l h → Ok r h → l.red = true → r.red = false → Alm (node l x r true) h
theorem Ok.blacken {t : RB α} {h : Nat} (k : Ok t h) : ∃ h', Ok (blacken t) h' := by
  cases k with
  | nil => exact ⟨_, .nil⟩
  | black a b c => exact ⟨_, .black a b c⟩
  | red a b c d => exact ⟨_, .black a b d⟩
theorem red_true {t : RB α} (h : t.red = true) : ∃ l x r, t = node l x r true := by
  cases t with
  | nil => cases h
  | node l x r c => exact ⟨l, x, r, by rw [show c = true from h]⟩
theorem Ok.inv_red {l r : RB α} {x : α} {h : Nat} (k : Ok (node l x r true) h) : Ok l h ∧ Ok r h ∧ l.red = false ∧ r.red = false := by
  cases k with
  | red a b c d => exact ⟨a, b, c, d⟩
theorem Ok.inv_black {l r : RB α} {x : α} {h : Nat} (k : Ok (node l x r false) h) : ∃ h', h = h' + 1 ∧ Ok l h' ∧ Ok r h' ∧ r.red = false := by
  cases k with
  | black a b c => exact ⟨_, rfl, a, b, c⟩
theorem red_left_false {t : RB α} {h : Nat} (k : Ok t h) (hr : t.red = true) : t.left.red = false := by
  obtain ⟨l, x, r, rfl⟩ := red_true hr
  exact k.inv_red.2.2.1
theorem mendL_black {l r : RB α} {y : α} {h : Nat} (hl : Alm l h) (hr : Ok r h) (h1 : r.red = false) : Ok (mend (node l y r false)) (h + 1) := by
  cases hl with
  | ok hl =>
    have hlr : (l.red && l.left.red) = false := by
      cases hc : l.red
      · rfl
      · rw [red_left_false hl hc]; rfl
    have : mend (node l y r false) = node l y r false := by
      simp [mend, mend1, mend2, mend3, left_node, right_node, red_node, h1, hlr]
    rw [this]
    exact .black hl hr h1
  | rr a b c d =>
    obtain ⟨ll, z, lr, rfl⟩ := red_true c
    obtain ⟨p1, p2, p3, p4⟩ := a.inv_red
    simp [mend, mend1, mend2, mend3, left_node, right_node, red_node, h1, toRight, flip]
    exact .red (.black p1 p2 p4) (.black b hr h1) rfl rfl
theorem mendL_red {l r : RB α} {y : α} {h : Nat} (hl : Ok l h) (hr : Ok r h) (h1 : r.red = false) : Alm (mend (node l y r true)) h := by
  have hlr : (l.red && l.left.red) = false := by
    cases hc : l.red
    · rfl
    · rw [red_left_false hl hc]; rfl
  have : mend (node l y r true) = node l y r true := by
    simp [mend, mend1, mend2, mend3, left_node, right_node, red_node, h1, hlr]
  rw [this]
  cases hc : l.red
  · exact .ok (.red hl hr hc h1)
  · exact .rr hl hr hc h1
theorem mendR_black {l r : RB α} {y : α} {h : Nat} (hl : Ok l h) (hr : Ok r h) : Ok (mend (node l y r false)) (h + 1) := by
  cases hc : r.red
  · exact mendL_black (.ok hl) hr hc
  · obtain ⟨rl, z, rr, rfl⟩ := red_true hc
    obtain ⟨p1, p2, p3, p4⟩ := hr.inv_red
    cases hd : l.red
    · have : mend (node l y (node rl z rr true) false) = node (node l y rl true) z rr false := by
        simp [mend, mend1, mend2, mend3, left_node, right_node, red_node, toLeft, hd, p4]
      rw [this]
      exact .black (.red hl p1 hd p3) p2 p4
    · obtain ⟨ll, u, lr, rfl⟩ := red_true hd
      obtain ⟨q1, q2, q3, q4⟩ := hl.inv_red
      have : mend (node (node ll u lr true) y (node rl z rr true) false) = node (node ll u lr false) y (node rl z rr false) true := by
        simp [mend, mend1, mend2, mend3, left_node, right_node, red_node, flip, q3]
      rw [this]
      exact .red (.black q1 q2 q4) (.black p1 p2 p4) rfl rfl
theorem mendR_red {l r : RB α} {y : α} {h : Nat} (hl : Ok l h) (hr : Ok r h) (h1 : l.red = false) : Alm (mend (node l y r true)) h := by
  cases hc : r.red
  · exact mendL_red hl hr hc
  · obtain ⟨rl, z, rr, rfl⟩ := red_true hc
    obtain ⟨p1, p2, p3, p4⟩ := hr.inv_red
    have : mend (node l y (node rl z rr true) true) = node (node l y rl true) z rr true := by
      simp [mend, mend1, mend2, mend3, left_node, right_node, red_node, toLeft, h1, p4]
    rw [this]
    exact .rr (.red hl p1 h1 p3) p2 rfl p4
theorem ok_ins (lt : α → α → Bool) (x : α) : ∀ {t : RB α} {h : Nat}, Ok t h → Alm (ins lt t x) h ∧ (t.red = false → Ok (ins lt t x) h) := by
  intro t h k
  induction k with
  | nil => exact ⟨.ok (.red .nil .nil rfl rfl), fun _ => .red .nil .nil rfl rfl⟩
  | @black l r y h a b c ia ib =>
    have key : Ok (ins lt (node l y r false) x) (h + 1) := by
      simp only [ins]
      cases lt x y
      · exact mendR_black a (ib.2 c)
      · exact mendL_black ia.1 b c
    exact ⟨.ok key, fun _ => key⟩
  | @red l r y h a b c d ia ib =>
    refine ⟨?_, fun h => by cases h⟩
    simp only [ins]
    cases lt x y
    · exact mendR_red a (ib.2 d) c
    · exact mendL_red (ia.2 c) b d
def Good (t : RB α) : Prop := t.red = false ∧ ∃ h, Ok t h
theorem Good.nil : Good (nil : RB α) := ⟨rfl, 0, .nil⟩
theorem blacken_red (t : RB α) : (blacken t).red = false := by cases t <;> rfl
theorem Good.ins {lt : α → α → Bool} {x : α} {t : RB α} (k : Good t) : Good (blacken (ins lt t x)) := by
  obtain ⟨hr, h, k⟩ := k
  exact ⟨blacken_red _, ((ok_ins lt x k).2 hr).blacken⟩
theorem ok_depth {t : RB α} {h : Nat} (k : Ok t h) : t.depth ≤ 2 * h + (if t.red then 1 else 0) ∧ 2 ^ h ≤ t.list.length + 1 := by
  induction k with
  | nil => simp [depth, list]
  | @black l r y h a b c ia ib =>
    obtain ⟨a1, a2⟩ := ia
    obtain ⟨b1, b2⟩ := ib
    refine ⟨?_, ?_⟩
    · simp only [depth, red]
      have : (if l.red = true then 1 else 0) ≤ 1 := by split <;> omega
      have : (if r.red = true then 1 else 0) ≤ 1 := by split <;> omega
      simp only [Bool.false_eq_true, if_false]
      omega
    · simp only [list, List.length_append, List.length_cons]
      rw [Nat.pow_succ]
      omega
  | @red l r y h a b c d ia ib =>
    obtain ⟨a1, a2⟩ := ia
    obtain ⟨b1, b2⟩ := ib
    rw [c] at a1
    rw [d] at b1
    refine ⟨?_, ?_⟩
    · simp only [depth, red]
      simp only [Bool.false_eq_true, if_false, if_true] at *
      omega
    · simp only [list, List.length_append, List.length_cons]
      omega
theorem Good.depth {t : RB α} (k : Good t) : 2 ^ ((t.depth + 1) / 2) ≤ t.list.length + 1 := by
  obtain ⟨hr, h, k⟩ := k
  obtain ⟨h1, h2⟩ := ok_depth k
  rw [hr] at h1
  simp only [Bool.false_eq_true, if_false] at h1
  exact Nat.le_trans (Nat.pow_le_pow_right (by decide) (show (t.depth + 1) / 2 ≤ h by omega)) h2
end RB
end Go.Proofs.YtegoaabjccignaaGreatDoorX

namespace Go.Proofs.YtegoaabjccignaaGreatDoorX
namespace RB
variable {α : Type}
def isNil : RB α → Bool
  | nil => true
  | node _ _ _ _ => false
def both : RB α → Bool
  | node (node _ _ _ _) _ (node _ _ _ _) _ => true
  | _ => false
def setR : RB α → RB α → RB α
  | nil, _ => nil
  | node l x _ c, r => node l x r c
def redLeft (t : RB α) : RB α := bif (flip t).right.left.red then flip (toLeft (setR (flip t) (toRight (flip t).right))) else flip t
def redRight (t : RB α) : RB α := bif (flip t).left.left.red then flip (toRight (flip t)) else flip t
def downL (t : RB α) : Option (RB α) := bif !t.left.red && !t.left.left.red then (bif both t then some (redLeft t) else none) else some t
def downR (t : RB α) : Option (RB α) := bif !t.right.red && !t.right.left.red then (bif both t then some (redRight t) else none) else some t
def least : RB α → Option α
  | nil => none
  | node nil x _ _ => some x
  | node (node a y b c) _ _ _ => least (node a y b c)
def cutMin : Nat → RB α → Option (RB α)
  | 0, _ => none
  | k + 1, t => bif t.isNil then none else bif t.left.isNil then some nil else
    match downL t with
    | some (node l x r c) => (cutMin k l).map fun l' => mend (node l' x r c)
    | _ => none
def cut (lt : α → α → Bool) (x : α) : Nat → RB α → Option (RB α)
  | 0, _ => none
  | _ + 1, nil => none
  | k + 1, node l y r c => bif lt x y then
      (bif l.isNil then none else
        match downL (node l y r c) with
        | some (node l1 y1 r1 c1) => (cut lt x k l1).map fun l' => mend (node l' y1 r1 c1)
        | _ => none)
    else bif (bif l.red then toRight (node l y r c) else node l y r c).right.isNil then some nil else
      match downR (bif l.red then toRight (node l y r c) else node l y r c) with
      | some (node l2 y2 r2 c2) => bif lt y2 x then (cut lt x k r2).map fun r' => mend (node l2 y2 r' c2)
          else match least r2 with
            | some m => (cutMin k r2).map fun r' => mend (node l2 m r' c2)
            | none => none
      | _ => none
theorem list_setR : ∀ (t r : RB α), t.right.list = r.list → (setR t r).list = t.list
  | nil, r, h => rfl
  | node l x r' c, r, h => by simp only [setR, list]; rw [← h]; rfl
theorem list_redLeft (t : RB α) : (redLeft t).list = t.list := by
  unfold redLeft
  cases (flip t).right.left.red
  · rw [cond_false, list_flip]
  · rw [cond_true, list_flip, list_toLeft, list_setR _ _ (list_toRight _).symm, list_flip]
theorem list_redRight (t : RB α) : (redRight t).list = t.list := by
  unfold redRight
  cases (flip t).left.left.red
  · rw [cond_false, list_flip]
  · rw [cond_true, list_flip, list_toRight, list_flip]
theorem least_list : ∀ t : RB α, least t = t.list.head?
  | nil => rfl
  | node nil x _ _ => rfl
  | node (node a y b c) x r d => by
    have := least_list (node a y b c)
    simp only [least, list] at *
    rw [this]
    cases h : a.list with
    | nil => simp
    | cons u v => simp
theorem least_cons {t : RB α} (h : t.isNil = false) : ∃ m, least t = some m ∧ t.list = m :: t.list.tail := by
  rw [least_list]
  cases hl : t.list with
  | nil => cases t with
    | nil => cases h
    | node l x r c => simp [list] at hl
  | cons m l => exact ⟨m, rfl, rfl⟩
theorem mend_id {l r : RB α} {x : α} {c : Bool} (h1 : l.red = false) (h2 : r.red = false) : mend (node l x r c) = node l x r c := by
  simp [mend, mend1, mend2, mend3, left_node, right_node, red_node, h1, h2]
theorem mendL_id {l r : RB α} {x : α} {c : Bool} {h : Nat} (hl : Ok l h) (h2 : r.red = false) : mend (node l x r c) = node l x r c := by
  have hlr : (l.red && l.left.red) = false := by
    cases hc : l.red
    · rfl
    · rw [red_left_false hl hc]; rfl
  simp [mend, mend1, mend2, mend3, left_node, right_node, red_node, h2, hlr]
theorem mendR_stays {l r : RB α} {y : α} {h : Nat} (hr : Ok r h) (hl : l.red = false) : (mend (node l y r false)).red = false := by
  cases hc : r.red
  · rw [mend_id hl hc]; rfl
  · obtain ⟨rl, z, rr, rfl⟩ := red_true hc
    obtain ⟨p1, p2, p3, p4⟩ := hr.inv_red
    have : mend (node l y (node rl z rr true) false) = node (node l y rl true) z rr false := by
      simp [mend, mend1, mend2, mend3, left_node, right_node, red_node, toLeft, hl, p4]
    rw [this]; rfl
theorem black_zero {t : RB α} (k : Ok t 0) (h : t.red = false) : t = nil := by
  cases k with
  | nil => rfl
  | red a b c d => cases h
theorem black_succ {t : RB α} {h : Nat} (k : Ok t (h + 1)) (hr : t.red = false) : ∃ l x r, t = node l x r false ∧ Ok l h ∧ Ok r h ∧ r.red = false := by
  cases k with
  | black a b c => exact ⟨_, _, _, rfl, a, b, c⟩
  | red a b c d => cases hr
theorem tail_append {A B : List α} {y : α} (h : A ≠ []) : (A ++ y :: B).tail = A.tail ++ y :: B := by cases A with
  | nil => exact absurd rfl h
  | cons a A => rfl
theorem tail_mid (A B C : List α) (y : α) : ((A ++ y :: B) ++ C).tail = (A ++ y :: B).tail ++ C := by cases A <;> simp
theorem list_ne {t : RB α} (h : t.isNil = false) : t.list ≠ [] := by
  cases t with
  | nil => cases h
  | node l x r c => simp [list]
structure Cut (t t' : RB α) (h : Nat) (L : List α) : Prop where
  ok : Ok t' h
  black : t.red = false → t'.red = false
  list : t'.list = L
theorem cutMin_ok : ∀ (k : Nat) (t : RB α) (h : Nat), Ok t h → t.isNil = false → (t.red = true ∨ t.left.red = true) → t.list.length ≤ k → ∃ t', cutMin k t = some t' ∧ Cut t t' h t.list.tail
  | 0, t, h, hk, hn, _, hl => by
    have := list_ne hn
    cases ht : t.list with
    | nil => exact absurd ht this
    | cons a b => rw [ht] at hl; simp at hl
  | k + 1, nil, h, hk, hn, _, hl => by cases hn
  | k + 1, node l x r true, h, hk, hn, _, hl => by
    obtain ⟨a, b, c, d⟩ := hk.inv_red
    simp only [list, List.length_append, List.length_cons] at hl
    cases h with
    | zero =>
      obtain rfl := black_zero a c
      obtain rfl := black_zero b d
      exact ⟨nil, rfl, .nil, (fun h => by cases h), rfl⟩
    | succ h =>
      obtain ⟨ll, y, lr, rfl, a1, a2, a3⟩ := black_succ a c
      obtain ⟨rl, z, rr, rfl, b1, b2, b3⟩ := black_succ b d
      simp only [list, List.length_append, List.length_cons] at hl
      cases hc : ll.red
      · cases hd : rl.red
        · obtain ⟨t', e, q⟩ := cutMin_ok k (node ll y lr true) h (.red a1 a2 hc a3) rfl (.inl rfl) (by simp only [list, List.length_append, List.length_cons]; omega)
          refine ⟨mend (node t' x (node rl z rr true) false), ?_, mendR_black q.ok (.red b1 b2 hd b3), (fun h => by cases h), ?_⟩
          · simp [cutMin, isNil, downL, both, redLeft, flip, left_node, right_node, red_node, hc, hd, e]
          · rw [list_mend]
            simp only [list, q.list]
            rw [tail_mid]
        · obtain ⟨rll, u, rlr, rfl⟩ := red_true hd
          obtain ⟨e1, e2, e3, e4⟩ := b1.inv_red
          obtain ⟨t', e, q⟩ := cutMin_ok k (node (node ll y lr true) x rll false) (h + 1) (.black (.red a1 a2 hc a3) e1 e3) rfl (.inr rfl) (by simp only [list, List.length_append, List.length_cons] at *; omega)
          have q2 := q.black rfl
          refine ⟨node t' u (node rlr z rr false) true, ?_, .red q.ok (.black e2 b2 b3) q2 rfl, (fun h => by cases h), ?_⟩
          · have := mend_id (l := t') (r := node rlr z rr false) (x := u) (c := true) q2 rfl
            simp [cutMin, isNil, downL, both, redLeft, flip, toLeft, toRight, setR, left_node, right_node, red_node, hc, e, this]
          · simp only [list, q.list]
            rw [tail_mid, tail_mid]
            simp
      · obtain ⟨t', e, q⟩ := cutMin_ok k (node ll y lr false) (h + 1) (.black a1 a2 a3) rfl (.inr hc) (by simp only [list, List.length_append, List.length_cons]; omega)
        have q2 := q.black rfl
        refine ⟨node t' x (node rl z rr false) true, ?_, .red q.ok (.black b1 b2 b3) q2 rfl, (fun h => by cases h), ?_⟩
        · have := mend_id (l := t') (r := node rl z rr false) (x := x) (c := true) q2 rfl
          simp [cutMin, isNil, downL, left_node, right_node, red_node, hc, e, this]
        · simp only [list, q.list]
          rw [tail_mid]
  | k + 1, node l x r false, h, hk, hn, hc, hl => by
    obtain ⟨h, rfl, a, b, c⟩ := hk.inv_black
    have hlr : l.red = true := by rcases hc with hc | hc; cases hc; exact hc
    simp only [list, List.length_append, List.length_cons] at hl
    obtain ⟨ll, y, lr, rfl⟩ := red_true hlr
    obtain ⟨t', e, q⟩ := cutMin_ok k (node ll y lr true) h a rfl (.inl rfl) (by omega)
    have e2 := mendL_id (x := x) (c := false) q.ok c
    refine ⟨node t' x r false, ?_, .black q.ok b c, fun _ => rfl, ?_⟩
    · simp [cutMin, isNil, downL, left_node, right_node, red_node, e, e2]
    · simp only [list, q.list]
      rw [tail_mid]
end RB
end Go.Proofs.YtegoaabjccignaaGreatDoorX

set_option linter.unusedSectionVars false
namespace Go.Proofs.YtegoaabjccignaaGreatDoorX
namespace RB
variable {α : Type} [DecidableEq α]
def sans (x : α) (l : List α) : List α := l.filter fun z => !decide (z = x)
theorem sans_append (x : α) (A B : List α) : sans x (A ++ B) = sans x A ++ sans x B := List.filter_append ..
theorem sans_none {x : α} {l : List α} (h : ∀ z ∈ l, z ≠ x) : sans x l = l := List.filter_eq_self.2 fun z hz => by simp [h z hz]
theorem sans_cons {x y : α} (h : y ≠ x) (l : List α) : sans x (y :: l) = y :: sans x l := by simp [sans, h]
theorem sans_self (x : α) (l : List α) : sans x (x :: l) = sans x l := by simp [sans]
structure In (lt : α → α → Bool) (S : α → Prop) (x : α) (l : List α) : Prop where
  srt : Srt lt l
  s : ∀ z ∈ l, S z
  mem : x ∈ l
variable {lt : α → α → Bool} {S : α → Prop} {x : α}
theorem lt_ne (ho : OrdOn lt S) {a b : α} (ha : S a) (h : lt a b = true) : a ≠ b := fun e => by
  subst e
  rw [ho.irr a ha] at h
  cases h
theorem In.left (ho : OrdOn lt S) {L R : List α} {y : α} (h : In lt S x (L ++ y :: R)) (hxy : lt x y = true) : In lt S x L ∧ sans x (L ++ y :: R) = sans x L ++ y :: R := by
  obtain ⟨h1, h2, h3, h4, h5⟩ := srt_node h.srt
  have hx := h.s x h.mem
  have hy := h.s y (by simp)
  have hR : ∀ z ∈ y :: R, z ≠ x := fun z hz e => by
    subst e
    rcases List.mem_cons.1 hz with rfl | hz
    · rw [ho.irr _ hx] at hxy; cases hxy
    · have := asym ho hy hx (h4 z hz); rw [hxy] at this; cases this
  have hm : x ∈ L := by
    rcases List.mem_append.1 h.mem with hm | hm
    · exact hm
    · exact absurd rfl (hR x hm)
  exact ⟨⟨h1, fun z hz => h.s z (List.mem_append_left _ hz), hm⟩, by rw [sans_append, sans_none hR]⟩
theorem In.right (ho : OrdOn lt S) {L R : List α} {y : α} (h : In lt S x (L ++ y :: R)) (hxy : lt y x = true) : In lt S x R ∧ sans x (L ++ y :: R) = L ++ y :: sans x R := by
  obtain ⟨h1, h2, h3, h4, h5⟩ := srt_node h.srt
  have hx := h.s x h.mem
  have hy := h.s y (by simp)
  have hL : ∀ z ∈ L, z ≠ x := fun z hz e => by
    subst e
    have := asym ho hx hy (h3 z hz); rw [hxy] at this; cases this
  have hyx := lt_ne ho hy hxy
  have hm : x ∈ R := by
    rcases List.mem_append.1 h.mem with hm | hm
    · exact absurd rfl (hL x hm)
    · rcases List.mem_cons.1 hm with rfl | hm
      · exact absurd rfl hyx
      · exact hm
  exact ⟨⟨h2, fun z hz => h.s z (by simp [hz]), hm⟩, by rw [sans_append, sans_none hL, sans_cons hyx]⟩
theorem In.eq (ho : OrdOn lt S) {L R : List α} {y : α} (h : In lt S x (L ++ y :: R)) (h6 : lt x y = false) (h7 : lt y x = false) : sans x (L ++ y :: R) = L ++ R := by
  obtain ⟨h1, h2, h3, h4, h5⟩ := srt_node h.srt
  have hx := h.s x h.mem
  have hy := h.s y (by simp)
  obtain rfl := ho.tri x y hx hy h6 h7
  rw [sans_append, sans_self, sans_none, sans_none]
  · intro z hz e; subst e; have := h4 _ hz; rw [ho.irr _ hx] at this; cases this
  · intro z hz e; subst e; have := h3 _ hz; rw [ho.irr _ hx] at this; cases this
theorem In.up (ho : OrdOn lt S) {L R : List α} {y u : α} (h : In lt S x (L ++ y :: R)) (hu : u ∈ R) (hxy : lt x y = true) : lt x u = true := by
  obtain ⟨h1, h2, h3, h4, h5⟩ := srt_node h.srt
  exact ho.tr x y u (h.s x h.mem) (h.s y (by simp)) (h.s u (by simp [hu])) hxy (h4 u hu)
theorem In.down (ho : OrdOn lt S) {L R : List α} {y u : α} (h : In lt S x (L ++ y :: R)) (hu : u ∈ L) (hxy : lt x y = false) : lt u x = true := by
  obtain ⟨h1, h2, h3, h4, h5⟩ := srt_node h.srt
  have hx := h.s x h.mem
  have hy := h.s y (by simp)
  have hus := h.s u (by simp [hu])
  have huy := h3 u hu
  cases hyx : lt y x
  · rw [ho.tri x y hx hy hxy hyx]; exact huy
  · exact ho.tr u y x hus hy hx huy hyx
def CutAt (lt : α → α → Bool) (S : α → Prop) (x : α) (k : Nat) : Prop :=
  ∀ (t : RB α) (h : Nat), Ok t h → t.isNil = false → (t.red = true ∨ t.left.red = true) → t.list.length ≤ k → In lt S x t.list → ∃ t', cut lt x k t = some t' ∧ Cut t t' h (sans x t.list)
theorem right_step (ho : OrdOn lt S) {k : Nat} (ih : CutAt lt S x k) {l r : RB α} {y : α} {c : Bool} {h : Nat} (hr : Ok r h) (hn : r.isNil = false) (hc : r.red = true ∨ r.left.red = true) (hl : r.list.length ≤ k) (hI : In lt S x (l.list ++ y :: r.list)) (hxy : lt x y = false) :
    ∃ m r', (bif lt y x then (cut lt x k r).map fun r' => mend (node l y r' c) else match least r with
      | some m => (cutMin k r).map fun r' => mend (node l m r' c)
      | none => none) = some (mend (node l m r' c)) ∧ Ok r' h ∧ (r.red = false → r'.red = false) ∧ l.list ++ m :: r'.list = sans x (l.list ++ y :: r.list) := by
  cases hyx : lt y x
  · obtain ⟨m, hm, hm2⟩ := least_cons hn
    obtain ⟨r', e, q⟩ := cutMin_ok k r h hr hn hc hl
    refine ⟨m, r', by simp [hm, e], q.ok, q.black, ?_⟩
    rw [hI.eq ho hxy hyx, q.list, ← hm2]
  · obtain ⟨hI', e1⟩ := hI.right ho hyx
    obtain ⟨r', e, q⟩ := ih r h hr hn hc hl hI'
    exact ⟨y, r', by simp [e], q.ok, q.black, by rw [e1, q.list]⟩
theorem cut_pre (ho : OrdOn lt S) {k : Nat} (ih : CutAt lt S x k) {l r : RB α} {y : α} {h : Nat} (hl : Ok l h) (hr : Ok r h) (h1 : l.red = false) (h2 : r.red = true) (hxy : lt x y = false) (hlen : (node l y r false).list.length ≤ k + 1) (hI : In lt S x (l.list ++ y :: r.list)) :
    ∃ t', cut lt x (k + 1) (node l y r false) = some t' ∧ Cut (node l y r false) t' (h + 1) (sans x (l.list ++ y :: r.list)) := by
  have hn : r.isNil = false := by
    obtain ⟨a, b, c, rfl⟩ := red_true h2
    rfl
  simp only [list, List.length_append, List.length_cons] at hlen
  obtain ⟨m, r', e, e1, e2, e3⟩ := right_step ho ih (c := false) hr hn (.inl h2) (by omega) hI hxy
  refine ⟨_, ?_, mendR_black (y := m) hl e1, fun _ => mendR_stays e1 h1, by rw [list_mend]; exact e3⟩
  simp only [cut, hxy, h1, cond_false, downR, right_node, hn, h2, Bool.not_true, Bool.false_and]
  exact e
theorem cut_ok (ho : OrdOn lt S) : ∀ k, CutAt lt S x k
  | 0 => fun t h hk hn _ hl hI => by
    have := hI.mem
    cases ht : t.list with
    | nil => rw [ht] at this; cases this
    | cons a b => rw [ht] at hl; simp at hl
  | k + 1 => fun t h hk hn hc hl hI => by
    have ih := cut_ok ho k
    cases t with
    | nil => cases hn
    | node l y r c =>
    simp only [list, List.length_append, List.length_cons] at hl
    simp only [list] at hI
    cases hxy : lt x y
    · -- to the right
      cases c with
      | false =>
        obtain ⟨h, rfl, a, b, c⟩ := hk.inv_black
        have hlr : l.red = true := by rcases hc with hc | hc; cases hc; exact hc
        obtain ⟨ll, z, lr, rfl⟩ := red_true hlr
        obtain ⟨a1, a2, a3, a4⟩ := a.inv_red
        simp only [list, List.length_append, List.length_cons] at hl
        have hzx : lt z x = true := hI.down ho (by simp [list]) hxy
        have hI2 : In lt S x (ll.list ++ z :: (node lr y r true).list) := by simpa [list] using hI
        obtain ⟨hI3, e1⟩ := hI2.right ho hzx
        obtain ⟨t', e, q⟩ := ih (node lr y r true) h (.red a2 b a4 c) rfl (.inl rfl) (by simp only [list, List.length_append, List.length_cons]; omega) hI3
        refine ⟨mend (node ll z t' false), ?_, mendR_black a1 q.ok, fun _ => mendR_stays q.ok a3, ?_⟩
        · simp only [cut, hxy, cond_false, red_node, cond_true, toRight, right_node, isNil, downR, Bool.not_true, Bool.false_and, hzx]
          simp [e]
        · rw [list_mend]
          simp only [list]
          rw [q.list, ← e1]
          simp [list]
      | true =>
        obtain ⟨a, b, c, d⟩ := hk.inv_red
        cases h with
        | zero =>
          obtain rfl := black_zero a c
          obtain rfl := black_zero b d
          refine ⟨nil, by simp [cut, hxy, red, right, isNil], .nil, (fun h => by cases h), ?_⟩
          have hm := hI.mem
          simp [list] at hm
          subst hm
          simp [list, sans]
        | succ h =>
          obtain ⟨ll, u, lr, rfl, a1, a2, a3⟩ := black_succ a c
          obtain ⟨rl, z, rr, rfl, b1, b2, b3⟩ := black_succ b d
          simp only [list, List.length_append, List.length_cons] at hl
          cases hd : rl.red
          · cases he : ll.red
            · obtain ⟨m, r', e, e1, e2, e3⟩ := right_step ho ih (l := node ll u lr true) (c := false) (Ok.red (x := z) b1 b2 hd b3) rfl (.inl rfl) (by simp only [list, List.length_append, List.length_cons]; omega) (y := y) (by simpa [list] using hI) hxy
              refine ⟨_, ?_, mendR_black (y := m) (.red a1 a2 he a3) e1, (fun h => by cases h), by rw [list_mend]; rw [show (node (node ll u lr true) m r' false).list = (node ll u lr true).list ++ m :: r'.list from rfl, e3]; rfl⟩
              simp only [cut, hxy, cond_false, red_node, right_node, left_node, isNil, downR, hd, Bool.not_false, Bool.and_self, both, cond_true, redRight, flip, Bool.not_true, he]
              exact e
            · obtain ⟨p, v, s, rfl⟩ := red_true he
              obtain ⟨c1, c2, c3, c4⟩ := a1.inv_red
              have hux : lt u x = true := hI.down ho (by simp [list]) hxy
              have hI2 : In lt S x ((node p v s false).list ++ u :: (lr.list ++ y :: (node rl z rr true).list)) := by simpa [list] using hI
              obtain ⟨hI3, e1⟩ := hI2.right ho hux
              cases k with
              | zero => omega
              | succ k =>
              have ih' := cut_ok ho k
              obtain ⟨t', e, q⟩ := cut_pre ho ih' a2 (Ok.red (x := z) b1 b2 hd b3) a3 rfl hxy (by simp only [list, List.length_append, List.length_cons] at *; omega) hI3
              have q2 := q.black rfl
              have e5 := mend_id (l := node p v s false) (r := t') (x := u) (c := true) rfl q2
              refine ⟨node (node p v s false) u t' true, ?_, .red (.black c1 c2 c4) q.ok rfl q2, (fun h => by cases h), ?_⟩
              · rw [cut]
                simp only [hxy, cond_false, red_node, right_node, left_node, isNil, downR, hd, Bool.not_false, Bool.and_self, both, cond_true, redRight, flip, toRight, Bool.not_true, hux]
                rw [← e5, e]
                rfl
              · simp only [list] at *
                rw [q.list, ← e1]
                simp
          · obtain ⟨m, r', e, e1, e2, e3⟩ := right_step ho ih (l := node ll u lr false) (c := true) b rfl (.inr hd) (by simp only [list, List.length_append, List.length_cons]; omega) (y := y) (by simpa [list] using hI) hxy
            have q2 := e2 rfl
            have e5 := mend_id (l := node ll u lr false) (r := r') (x := m) (c := true) rfl q2
            refine ⟨node (node ll u lr false) m r' true, ?_, .red a e1 rfl q2, (fun h => by cases h), e3⟩
            rw [← e5]
            simp only [cut, hxy, cond_false, red_node, right_node, left_node, isNil, downR, hd, Bool.not_false, Bool.not_true, Bool.and_false, cond_true]
            exact e
    · -- to the left
      obtain ⟨hI1, eF⟩ := hI.left ho hxy
      cases c with
      | false =>
        obtain ⟨h, rfl, a, b, c⟩ := hk.inv_black
        have hlr : l.red = true := by rcases hc with hc | hc; cases hc; exact hc
        obtain ⟨ll, z, lr, rfl⟩ := red_true hlr
        obtain ⟨t', e, q⟩ := ih _ h a rfl (.inl rfl) (by omega) hI1
        have e2 := mendL_id (x := y) (c := false) q.ok c
        refine ⟨node t' y r false, ?_, .black q.ok b c, fun _ => rfl, ?_⟩
        · simp [cut, hxy, isNil, downL, left_node, right_node, red_node, e, e2]
        · simp only [list] at *
          rw [q.list, eF]
      | true =>
        obtain ⟨a, b, c, d⟩ := hk.inv_red
        cases h with
        | zero =>
          obtain rfl := black_zero a c
          have := hI1.mem
          cases this
        | succ h =>
          obtain ⟨ll, u, lr, rfl, a1, a2, a3⟩ := black_succ a c
          obtain ⟨rl, z, rr, rfl, b1, b2, b3⟩ := black_succ b d
          simp only [list, List.length_append, List.length_cons] at hl
          cases he : ll.red
          · cases hd : rl.red
            · obtain ⟨t', e, q⟩ := ih (node ll u lr true) h (.red a1 a2 he a3) rfl (.inl rfl) (by simp only [list, List.length_append, List.length_cons]; omega) hI1
              refine ⟨mend (node t' y (node rl z rr true) false), ?_, mendR_black q.ok (.red b1 b2 hd b3), (fun h => by cases h), ?_⟩
              · simp [cut, hxy, isNil, downL, both, redLeft, flip, left_node, right_node, red_node, he, hd, e]
              · rw [list_mend]
                simp only [list] at *
                rw [q.list, eF]
            · obtain ⟨rll, v, rlr, rfl⟩ := red_true hd
              obtain ⟨c1, c2, c3, c4⟩ := b1.inv_red
              have hxv : lt x v = true := hI.up ho (by simp [list]) hxy
              have hI2 : In lt S x ((node (node ll u lr true) y rll false).list ++ v :: (node rlr z rr false).list) := by simpa [list] using hI
              obtain ⟨hI3, eF2⟩ := hI2.left ho hxv
              obtain ⟨t', e, q⟩ := ih (node (node ll u lr true) y rll false) (h + 1) (.black (.red a1 a2 he a3) c1 c3) rfl (.inr rfl) (by simp only [list, List.length_append, List.length_cons] at *; omega) hI3
              have q2 := q.black rfl
              have e5 := mend_id (l := t') (r := node rlr z rr false) (x := v) (c := true) q2 rfl
              refine ⟨node t' v (node rlr z rr false) true, ?_, .red q.ok (.black c2 b2 b3) q2 rfl, (fun h => by cases h), ?_⟩
              · simp [cut, hxy, isNil, downL, both, redLeft, flip, toLeft, toRight, setR, left_node, right_node, red_node, he, e, e5]
              · simp only [list] at *
                rw [q.list, ← eF2]
                simp
          · obtain ⟨t', e, q⟩ := ih (node ll u lr false) (h + 1) a rfl (.inr he) (by simp only [list, List.length_append, List.length_cons]; omega) hI1
            have q2 := q.black rfl
            have e5 := mend_id (l := t') (r := node rl z rr false) (x := y) (c := true) q2 rfl
            refine ⟨node t' y (node rl z rr false) true, ?_, .red q.ok b q2 rfl, (fun h => by cases h), ?_⟩
            · simp [cut, hxy, isNil, downL, left_node, right_node, red_node, he, e, e5]
            · simp only [list] at *
              rw [q.list, eF]
end RB
end Go.Proofs.YtegoaabjccignaaGreatDoorX

namespace Go.Proofs.YtegoaabjccignaaGreatDoorX
open Go Go.RowKit
abbrev nodeO (x : Int) (av : Value) (pl pr : Option Addr) (c : Bool) : Obj := .cells #[.int .i64 x, av, .pointer pl, .pointer pr, .bool c] 228 (0, 0)
abbrev treeO (p : Option Addr) (n : Int) : Obj := .cells #[.pointer p, .int .i64 n, .func (.func 204) #[] #[], .func (.func 205) #[] #[], .func (.func 206) #[] #[]] 226 (0, 0)
def TreeAt (w : World) : RB Int → Option Addr → List Nat → Prop
  | .nil, p, fp => p = none ∧ fp = []
  | .node l x r c, p, fp => ∃ b av pl pr fl fr, p = some ⟨b, 0, none⟩ ∧ fp = b :: (fl ++ fr) ∧ w.heap[b]? = some (nodeO x av pl pr c) ∧ DAt w av (l.list ++ x :: r.list) ∧ TreeAt w l pl fl ∧ TreeAt w r pr fr
def StaleAt (w : World) (l : RB Int) (x : Int) (r : RB Int) (c : Bool) (p : Option Addr) (fp : List Nat) : Prop :=
  ∃ b av pl pr fl fr, p = some ⟨b, 0, none⟩ ∧ fp = b :: (fl ++ fr) ∧ w.heap[b]? = some (nodeO x av pl pr c) ∧ TreeAt w l pl fl ∧ TreeAt w r pr fr
theorem TreeAt.stale {w : World} {l : RB Int} {x : Int} {r : RB Int} {c : Bool} {p : Option Addr} {fp : List Nat} (h : TreeAt w (.node l x r c) p fp) : StaleAt w l x r c p fp := by
  obtain ⟨b, av, pl, pr, fl, fr, h1, h2, h3, h4, h5, h6⟩ := h
  exact ⟨b, av, pl, pr, fl, fr, h1, h2, h3, h5, h6⟩
def Nodes (w : World) (F : List Nat) : Prop := ∀ b ∈ F, ∃ cs fz, w.heap[b]? = some (.cells cs 228 fz)
theorem Nodes.nil (w : World) : Nodes w [] := fun b h => by cases h
theorem Nodes.append {w : World} {F G : List Nat} (h : Nodes w F) (k : Nodes w G) : Nodes w (F ++ G) := fun b hb => by
  rcases List.mem_append.1 hb with hb | hb
  · exact h b hb
  · exact k b hb
theorem Nodes.sub {w : World} {F G : List Nat} (h : Nodes w F) (k : ∀ b ∈ G, b ∈ F) : Nodes w G := fun b hb => h b (k b hb)
theorem Nodes.cons {w : World} {F : List Nat} {b : Nat} {cs : Array Value} {fz : Nat × Nat} (h : w.heap[b]? = some (.cells cs 228 fz)) (k : Nodes w F) : Nodes w (b :: F) := fun b' hb => by
  rcases List.mem_cons.1 hb with rfl | hb
  · exact ⟨_, _, h⟩
  · exact k b' hb
theorem TreeAt.nodes {w : World} : ∀ {t : RB Int} {p : Option Addr} {fp : List Nat}, TreeAt w t p fp → Nodes w fp
  | .nil, p, fp, ⟨_, h⟩ => by subst h; exact Nodes.nil w
  | .node l x r c, p, fp, ⟨b, av, pl, pr, fl, fr, h1, h2, h3, h4, h5, h6⟩ => by
    subst h2
    exact .cons h3 (h5.nodes.append h6.nodes)
theorem StaleAt.nodes {w : World} {l : RB Int} {x : Int} {r : RB Int} {c : Bool} {p : Option Addr} {fp : List Nat} (h : StaleAt w l x r c p fp) : Nodes w fp := by
  obtain ⟨b, av, pl, pr, fl, fr, h1, h2, h3, h5, h6⟩ := h
  subst h2
  exact .cons h3 (h5.nodes.append h6.nodes)
theorem DAt.keep {w w' : World} {v : Value} {xs : List Int} {F : List Nat} (h : DAt w v xs) (ho : Only F w w') (hF : Nodes w F) : DAt w' v xs := by
  obtain ⟨ad, cap, rfl, h⟩ := h
  refine ⟨ad, cap, rfl, fun hn => ?_⟩
  obtain ⟨b, off, cs, fz, h1, h2, h3, h4⟩ := h hn
  refine ⟨b, off, cs, fz, h1, h2, ho.block h3 fun hb => ?_, h4⟩
  obtain ⟨cs', fz', h5⟩ := hF b hb
  rw [h3] at h5
  cases h5
theorem TreeAt.keep {w w' : World} {F : List Nat} (ho : Only F w w') (hF : Nodes w F) : ∀ {t : RB Int} {p : Option Addr} {fp : List Nat}, TreeAt w t p fp → (∀ b ∈ fp, b ∉ F) → TreeAt w' t p fp
  | .nil, p, fp, h, _ => h
  | .node l x r c, p, fp, ⟨b, av, pl, pr, fl, fr, h1, h2, h3, h4, h5, h6⟩, hd => by
    subst h2
    exact ⟨b, av, pl, pr, fl, fr, h1, rfl, ho.block h3 (hd b List.mem_cons_self), h4.keep ho hF, TreeAt.keep ho hF h5 fun k hk => hd k (List.mem_cons_of_mem _ (List.mem_append_left _ hk)),
      TreeAt.keep ho hF h6 fun k hk => hd k (List.mem_cons_of_mem _ (List.mem_append_right _ hk))⟩
theorem head_keep {w w' : World} {F : List Nat} {tb : Nat} {p : Option Addr} {n : Int} (h : w.heap[tb]? = some (treeO p n)) (ho : Only F w w') (hF : Nodes w F) : w'.heap[tb]? = some (treeO p n) :=
  ho.block h fun hb => by
    obtain ⟨cs', fz', h5⟩ := hF tb hb
    rw [h] at h5
    cases h5
def Sub (w0 : World) (fp fp' : List Nat) : Prop := fp'.Nodup ∧ ∀ k ∈ fp', k ∈ fp ∨ w0.heap.size ≤ k
end Go.Proofs.YtegoaabjccignaaGreatDoorX

namespace Go.Proofs.YtegoaabjccignaaGreatDoorX
open Go Go.RowKit
attribute [local irreducible] XS XC XA thenE blockE retE loopE loopS cutB cutN doneE SE
theorem less_ret (a b : Int) (w0 : World) : Ret Tryz.prog 204 #[.int .i64 a, .int .i64 b] w0 fun v w' => v = .bool (decide (a < b)) ∧ Only [] w0 w' := by
  have hs := St.nil w0
  refine ret_of_xc Tryz.func204 (by kernel_rfl) rfl Tryz.ntmps204 rfl rfl rfl ?_
  repeat' (first|refine vs (k:=?_)|refine ps (k:=?_)|((first|refine st hs (k:=?_)|refine stA hs (k:=?_));intro w hs)|((first|refine al hs (k:=?_)|refine bx hs (k:=?_)|refine bs hs (k:=?_));intro b w hz hs)|refine qRg ?_|refine Nx.h ?_|refine qBo ?_|refine qCt ?_|refine qCf ?_|((with_reducible apply xs_guard);exact rfl;exact rfl;intro c hc;(fail_if_success have:true=c:=hc);(fail_if_success have:false=c:=hc);cases c)|(refine xc_if rfl (fun hc=>?_) (fun hc=>?_))|(refine xc_cond rfl (fun hc=>?_) (fun hc=>?_)))
  first | refine rt (hq := ?_) | refine rt' (hq := ?_)
  exact ⟨rfl, hs.only0 rfl⟩
theorem one_ret (a : Int) (w0 : World) : Ret Tryz.prog 205 #[.int .i64 a] w0 fun v w' => DAt w' v [a] ∧ Only [] w0 w' := by
  have hs := St.nil w0
  refine ret_of_xc Tryz.func205 (by kernel_rfl) rfl Tryz.ntmps205 rfl rfl rfl ?_
  repeat' (first|refine vs (k:=?_)|refine ps (k:=?_)|((first|refine st hs (k:=?_)|refine stA hs (k:=?_));intro w hs)|((first|refine al hs (k:=?_)|refine bx hs (k:=?_)|refine bs hs (k:=?_));intro b w hz hs)|refine qRg ?_|refine Nx.h ?_|refine qBo ?_|refine qCt ?_|refine qCf ?_|((with_reducible apply xs_guard);exact rfl;exact rfl;intro c hc;(fail_if_success have:true=c:=hc);(fail_if_success have:false=c:=hc);cases c)|(refine xc_if rfl (fun hc=>?_) (fun hc=>?_))|(refine xc_cond rfl (fun hc=>?_) (fun hc=>?_)))
  first | refine rt (hq := ?_) | refine rt' (hq := ?_)
  refine ⟨⟨_, _, rfl, fun _ => ⟨_, 0, [.int .i64 a], (0, 0), rfl, Nat.le_refl _, hs.get At.head, fun i d h => ?_⟩⟩, hs.only0 rfl⟩
  cases i with
  | zero => simpa using h
  | succ i => simp at h
theorem ints_one (xs : List Int) : (xs.map (Value.int .i64)).all Value.oneCell' = true := by simp [Value.oneCell']
theorem DAt.cells {w : World} {ad : Option Addr} {cap n : Nat} {xs : List Int} (h : DAt w (.slice ad n cap) xs) (hn : xs ≠ []) : ∃ b off, ad = some ⟨b, off, none⟩ ∧ n = xs.length ∧ n ≤ cap ∧ ∀ (j : Nat) u, (ints xs)[j]? = some u → w.cell? ((⟨b, off, none⟩ : Addr).add j) = some u := by
  obtain ⟨ad', cap', e, h⟩ := h
  cases e
  obtain ⟨b, off, cs, fz, rfl, h2, h3, h4⟩ := h hn
  refine ⟨b, off, rfl, rfl, h2, fun j u hj => ?_⟩
  rw [add_addr]
  unfold ints at hj
  rw [List.getElem?_map] at hj
  obtain ⟨d, hd, rfl⟩ := Option.map_eq_some_iff.1 hj
  simp [World.cell?, h3, h4 j d hd]
theorem both_ret (va vb : Value) (A B : List Int) (hA0 : A ≠ []) (hB0 : B ≠ []) (hlen : A.length + B.length ≤ 1000000) (w0 : World) (hA : DAt w0 va A) (hB : DAt w0 vb B) :
    Ret Tryz.prog 206 #[va, vb] w0 fun v w' => DAt w' v (A ++ B) ∧ Only [] w0 w' := by
  obtain ⟨aa, ca, rfl, _⟩ := id hA
  obtain ⟨ab, cb, rfl, _⟩ := id hB
  have hs := St.nil w0
  refine ret_of_xc Tryz.func206 (by kernel_rfl) rfl Tryz.ntmps206 rfl rfl rfl ?_
  refine xc_seq ?_
  refine xc_region ?_ ?_; exact rfl
  refine vs (k := ?_)
  refine XS.nil ?_
  refine then_of ?_
  refine xc_seq ?_
  refine xc_region ?_ ?_; exact rfl
  refine xs_buildSlice0 tabOk rfl rfl hs ?_
  intro v1 w1 hO hv1
  refine vs (k := ?_)
  have ho1 := hO.st.only0 rfl
  obtain ⟨b, off, rfl, _, _, hc⟩ := (hA.only ho1).cells hA0
  refine xs_appendS tabOk rfl rfl rfl rfl rfl rfl (by simp [ints]) (List.length_pos_iff.2 hA0) hc (List.all_eq_true.1 (ints_one A)) hO (by omega) (by omega) ?_
  intro v2 w2 hO hv2
  refine vs (k := ?_)
  have ho2 := hO.st.only0 rfl
  obtain ⟨b', off', rfl, _, _, hc'⟩ := (hB.only ho2).cells hB0
  refine xs_appendS tabOk rfl rfl rfl rfl rfl rfl (by simp [ints]) (List.length_pos_iff.2 hB0) hc' (List.all_eq_true.1 (ints_one B)) hO (by omega) (by omega) ?_
  intro v3 w3 hO hv3
  have hs := hO.st
  repeat' (first|refine vs (k:=?_)|refine ps (k:=?_)|((first|refine st hs (k:=?_)|refine stA hs (k:=?_));intro w hs)|((first|refine al hs (k:=?_)|refine bx hs (k:=?_)|refine bs hs (k:=?_));intro b w hz hs)|refine qRg ?_|refine Nx.h ?_|refine qBo ?_|refine qCt ?_|refine qCf ?_|((with_reducible apply xs_guard);exact rfl;exact rfl;intro c hc;(fail_if_success have:true=c:=hc);(fail_if_success have:false=c:=hc);cases c)|(refine xc_if rfl (fun hc=>?_) (fun hc=>?_))|(refine xc_cond rfl (fun hc=>?_) (fun hc=>?_)))
  first | refine rt (hq := ?_) | refine rt' (hq := ?_)
  refine ⟨?_, hs.only0 rfl⟩
  have e : ints A ++ ints B = ints (A ++ B) := by simp [ints]
  simp only [List.nil_append] at hO
  rw [e] at hO
  exact own_dat hO (by simp)
theorem isRed_ret (t : RB Int) (p : Option Addr) (fp : List Nat) (w0 : World) (h : TreeAt w0 t p fp) : Ret Tryz.prog 219 #[.pointer p] w0 fun v w' => v = .bool t.red ∧ Only [] w0 w' := by
  have hs := St.nil w0
  cases t with
  | nil =>
    obtain ⟨rfl, rfl⟩ := h
    refine ret_of_xc Tryz.func219 (by kernel_rfl) rfl Tryz.ntmps219 rfl rfl rfl ?_
    repeat' (first|refine vs (k:=?_)|refine ps (k:=?_)|((first|refine st hs (k:=?_)|refine stA hs (k:=?_));intro w hs)|((first|refine al hs (k:=?_)|refine bx hs (k:=?_)|refine bs hs (k:=?_));intro b w hz hs)|refine qRg ?_|refine Nx.h ?_|refine qBo ?_|refine qCt ?_|refine qCf ?_|((with_reducible apply xs_guard);exact rfl;exact rfl;intro c hc;(fail_if_success have:true=c:=hc);(fail_if_success have:false=c:=hc);cases c)|(refine xc_if rfl (fun hc=>?_) (fun hc=>?_))|(refine xc_cond rfl (fun hc=>?_) (fun hc=>?_)))
    first | refine rt (hq := ?_) | refine rt' (hq := ?_)
    exact ⟨rfl, hs.only0 rfl⟩
  | node l x r c =>
    obtain ⟨b, av, pl, pr, fl, fr, rfl, h2, h3, h4, h5, h6⟩ := h
    replace hs := hs.track h3 (by simp)
    refine ret_of_xc Tryz.func219 (by kernel_rfl) rfl Tryz.ntmps219 rfl rfl rfl ?_
    repeat' (first|refine vs (k:=?_)|refine ps (k:=?_)|((first|refine st hs (k:=?_)|refine stA hs (k:=?_));intro w hs)|((first|refine al hs (k:=?_)|refine bx hs (k:=?_)|refine bs hs (k:=?_));intro b w hz hs)|refine qRg ?_|refine Nx.h ?_|refine qBo ?_|refine qCt ?_|refine qCf ?_|((with_reducible apply xs_guard);exact rfl;exact rfl;intro c hc;(fail_if_success have:true=c:=hc);(fail_if_success have:false=c:=hc);cases c)|(refine xc_if rfl (fun hc=>?_) (fun hc=>?_))|(refine xc_cond rfl (fun hc=>?_) (fun hc=>?_)))
    first | refine rt (hq := ?_) | refine rt' (hq := ?_)
    exact ⟨rfl, hs.onlyF [] (by simp [h3]) (by simp [D0])⟩
end Go.Proofs.YtegoaabjccignaaGreatDoorX

namespace Go.Proofs.YtegoaabjccignaaGreatDoorX
open Go Go.RowKit
attribute [local irreducible] XS XC XA thenE blockE retE loopE loopS cutB cutN doneE SE
structure Minus (A B xs : List Int) (i : Nat) (c : Int) : Prop where
  len : xs.length = i
  ok : DOk xs
  c0 : 0 ≤ c
  c1 : c ≤ 1
  le : i ≤ A.length
  sum : valD xs - 10000 ^ i * c = valD (A.take i) - valD (B.take i)
theorem minus_next {A B xs : List Int} {i : Nat} {c : Int} (hA : DOk A) (hB : DOk B) (h : Minus A B xs i c) (hi : i < A.length) :
    (dig A i - dig B i - c < 0 → Minus A B (xs ++ [dig A i - dig B i - c + 10000]) (i + 1) 1) ∧ (¬ dig A i - dig B i - c < 0 → Minus A B (xs ++ [dig A i - dig B i - c]) (i + 1) 0) := by
  obtain ⟨h1, h2, h3, h4, h5, h7⟩ := h
  have a1 := dig_rng hA i
  have b1 := dig_rng hB i
  refine ⟨fun hn => ⟨by simp [h1], h2.snoc (by omega) (by omega), by omega, by omega, by omega, ?_⟩, fun hn => ⟨by simp [h1], h2.snoc (by omega) (by omega), by omega, by omega, by omega, ?_⟩⟩
  · rw [valD_snoc, h1, valD_take, valD_take, Int.pow_succ]
    have : (10000 : Int) ^ i * (dig A i - dig B i - c + 10000) = 10000 ^ i * dig A i - 10000 ^ i * dig B i - 10000 ^ i * c + 10000 ^ i * 10000 := by grind
    omega
  · rw [valD_snoc, h1, valD_take, valD_take]
    have : (10000 : Int) ^ i * (dig A i - dig B i - c) = 10000 ^ i * dig A i - 10000 ^ i * dig B i - 10000 ^ i * c := by grind
    omega
theorem minus_end {A B xs : List Int} {i : Nat} {c : Int} (hA : DOk A) (hB : DOk B) (h : Minus A B xs i c) (h1 : A.length ≤ i) (h2 : B.length ≤ A.length) (h3 : valD B ≤ valD A) : valD xs = valD A - valD B := by
  have hs := h.sum
  rw [List.take_of_length_le h1, List.take_of_length_le (by omega)] at hs
  have h4 := valD_lt h.ok
  rw [h.len] at h4
  have h5 := valD_nonneg h.ok
  have hc : c = 0 := by
    have h6 := h.c0
    have h7 := h.c1
    have h8 : c = 0 ∨ c = 1 := by omega
    rcases h8 with h8 | h8
    · exact h8
    · subst h8; omega
  subst hc
  omega
end Go.Proofs.YtegoaabjccignaaGreatDoorX
