/- Layer 6: told. -/
import Derived.Test.YtjooegonmdmajaaRb17
import Derived.Test.YtjooegonmdmajaaRef6
set_option linter.unusedVariables false
set_option linter.unusedSimpArgs false
set_option maxRecDepth 100000
namespace Go.Proofs.YtjooegonmdmajaaX
open Go Go.RowKit
attribute [local irreducible] XS XC XA thenE blockE retE loopE loopS cutB cutN doneE SE
section
variable {QE : Exit → Env → World → Prop} {n : Nat} {env : Env} {w wb : World} {D : Ctx} {H : List Ent}
theorem drH (E : List Nat) (HH : List Ent) {id : Nat} {ops : Array Oper} (hs : St wb D H w) (hX : XH ops E QE n := by exact ⟨by kernel_rfl, by kernel_rfl, by kernel_rfl, by (repeat (first | (with_reducible exact nop_ret) | (with_reducible apply nop_then) | (with_reducible apply nop_block) | (with_reducible apply nop_loop) | (with_reducible apply nop_loopS) | (with_reducible apply nop_cutB) | (with_reducible apply nop_cutN)))⟩)
    (k : XH ops E QE n → ∀ w', St wb D H w' → XA Try.prog ops E HH QE n ops.size (Array.replicate ops.size false) env w') : XC Try.prog QE n (.region id ops true) env w := xc_drawR E HH tabOk hs hX k
end
theorem below1_ret (e : Int) (eb : Nat) (y : Int) (w0 : World) (h : w0.heap[eb]? = some (.cells #[.int .i64 e] 3 (0, 0))) : Ret Try.prog 90 #[.int .i64 y, .pointer (some ⟨eb, 0, none⟩)] w0 fun v w' => v = .bool (decide (y < e)) ∧ Only [] w0 w' := by
  have hs := (St.nil w0).track h (by simp)
  refine ret_of_xc Try.func90 (by kernel_rfl) rfl Try.ntmps90 rfl rfl rfl ?_
  repeat' (first | refine vs (k := ?_) | refine ps (k := ?_) | (refine st hs (k := ?_); intro w hs) | (refine stA hs (k := ?_); intro w hs) | (refine al hs (k := ?_); intro b w hz hs) | (refine bx hs (k := ?_); intro b w hz hs) | (refine bs hs (k := ?_); intro b w hz hs) | refine XS.nil ?_ | refine then_of ?_ | refine xc_seq ?_ | (refine xc_region ?_ ?_; exact rfl) | refine xc_block ?_ | refine block_normal ?_ | refine xc_ret ?_ | refine then_ret ?_ | refine block_ret ?_ | refine xc_skip ?_ | refine xc_exit ?_ | refine then_exit ?_ | refine loopS_exit ?_ | refine loopS_ret ?_ | refine cutB_ret ?_ | refine cutN_ret ?_ | refine cutN_exit ?_ | refine block_exit ?_ | (refine block_other ?_ ?_; exact rfl) | (refine xc_true ?_ ?_; exact rfl) | (refine xc_false ?_ ?_; exact rfl) | ((with_reducible apply xs_guard); exact rfl; exact rfl; intro c hc; (fail_if_success (have : true = c := hc)); (fail_if_success (have : false = c := hc)); cases c) | (refine xc_if rfl (fun hc => ?_) (fun hc => ?_)) | (refine xc_cond rfl (fun hc => ?_) (fun hc => ?_)))
  first | refine rt (hq := ?_) | refine rt' (hq := ?_)
  exact ⟨rfl, hs.onlyF [] (by simp [h]) (by simp [D0])⟩
set_option maxHeartbeats 4000000 in
theorem told6_ret (tb : Nat) (xs : List Int) (F : List Nat) (sl : Value) (x : Int) (hlen : xs.length ≤ 1000000) (w0 : World) (h : Set6 w0 tb xs F) (hq : DAt w0 sl xs) : Ret Try.prog 50 #[.pointer (some ⟨tb, 0, none⟩), sl, .int .i64 x] w0 fun v w' => v = .bool true ∧ Only [] w0 w' := by
  obtain ⟨ad, cap, rfl, _⟩ := id hq
  have hs := St.nil w0
  refine ret_of_xc Try.func50 (by kernel_rfl) rfl Try.ntmps50 rfl rfl rfl ?_
  repeat' (first | refine vs (k := ?_) | refine ps (k := ?_) | (refine st hs (k := ?_); intro w hs) | (refine stA hs (k := ?_); intro w hs) | (refine al hs (k := ?_); intro b w hz hs) | (refine bx hs (k := ?_); intro b w hz hs) | (refine bs hs (k := ?_); intro b w hz hs) | refine XS.nil ?_ | refine then_of ?_ | refine xc_seq ?_ | refine xc_block ?_ | refine block_normal ?_ | refine xc_ret ?_ | refine then_ret ?_ | refine block_ret ?_ | refine xc_skip ?_ | refine xc_exit ?_ | refine then_exit ?_ | refine loopS_exit ?_ | refine loopS_ret ?_ | refine cutB_ret ?_ | refine cutN_ret ?_ | refine cutN_exit ?_ | refine block_exit ?_ | (refine block_other ?_ ?_; exact rfl) | (refine xc_true ?_ ?_; exact rfl) | (refine xc_false ?_ ?_; exact rfl) | ((with_reducible apply xs_guard); exact rfl; exact rfl; intro c hc; (fail_if_success (have : true = c := hc)); (fail_if_success (have : false = c := hc)); cases c) | (refine xc_if rfl (fun hc => ?_) (fun hc => ?_)) | (refine xc_cond rfl (fun hc => ?_) (fun hc => ?_)))
  refine xc_region ?_ ?_; exact rfl
  refine bx hs (k := ?_); intro eb w hz hs
  have heb := hs.get At.head
  have o1 : Only [] w0 w := hs.only0 rfl
  have hdq : Down fun y => decide (y < x) := fun a b h k => by simp only [decide_eq_true_eq] at *; omega
  replace h := h.only o1
  replace hq := hq.only o1
  clear hs
  have hs := St.nil w
  repeat' (first | refine vs (k := ?_) | refine ps (k := ?_) | (refine st hs (k := ?_); intro w hs) | (refine stA hs (k := ?_); intro w hs) | (refine al hs (k := ?_); intro b w hz hs) | (refine bx hs (k := ?_); intro b w hz hs) | (refine bs hs (k := ?_); intro b w hz hs) | refine XS.nil ?_ | refine then_of ?_ | refine xc_seq ?_ | (refine xc_region ?_ ?_; exact rfl) | refine xc_block ?_ | refine block_normal ?_ | refine xc_ret ?_ | refine then_ret ?_ | refine block_ret ?_ | refine xc_skip ?_ | refine xc_exit ?_ | refine then_exit ?_ | refine loopS_exit ?_ | refine loopS_ret ?_ | refine cutB_ret ?_ | refine cutN_ret ?_ | refine cutN_exit ?_ | refine block_exit ?_ | (refine block_other ?_ ?_; exact rfl) | (refine xc_true ?_ ?_; exact rfl) | (refine xc_false ?_ ?_; exact rfl) | ((with_reducible apply xs_guard); exact rfl; exact rfl; intro c hc; (fail_if_success (have : true = c := hc)); (fail_if_success (have : false = c := hc)); cases c) | (refine xc_if rfl (fun hc => ?_) (fun hc => ?_)) | (refine xc_cond rfl (fun hc => ?_) (fun hc => ?_)))
  (with_reducible apply xs_call); exact rfl; exact rfl; exact setMin_ret tb xs F _ (h.only (hs.only0 rfl))
  rintro v w' ⟨rfl, ho⟩; replace hs := hs.call0 ho; repeat' (first | refine vs (k := ?_) | refine ps (k := ?_) | (refine st hs (k := ?_); intro w hs) | (refine stA hs (k := ?_); intro w hs) | (refine al hs (k := ?_); intro b w hz hs) | (refine bx hs (k := ?_); intro b w hz hs) | (refine bs hs (k := ?_); intro b w hz hs) | refine XS.nil ?_ | refine then_of ?_ | refine xc_seq ?_ | (refine xc_region ?_ ?_; exact rfl) | refine xc_block ?_ | refine block_normal ?_ | refine xc_ret ?_ | refine then_ret ?_ | refine block_ret ?_ | refine xc_skip ?_ | refine xc_exit ?_ | refine then_exit ?_ | refine loopS_exit ?_ | refine loopS_ret ?_ | refine cutB_ret ?_ | refine cutN_ret ?_ | refine cutN_exit ?_ | refine block_exit ?_ | (refine block_other ?_ ?_; exact rfl) | (refine xc_true ?_ ?_; exact rfl) | (refine xc_false ?_ ?_; exact rfl) | ((with_reducible apply xs_guard); exact rfl; exact rfl; intro c hc; (fail_if_success (have : true = c := hc)); (fail_if_success (have : false = c := hc)); cases c) | (refine xc_if rfl (fun hc => ?_) (fun hc => ?_)) | (refine xc_cond rfl (fun hc => ?_) (fun hc => ?_)))
  (with_reducible apply xs_call); exact rfl; exact rfl; exact setFold_ret tb xs F _ (h.only (hs.only0 rfl)) 90 [.pointer (some ⟨eb, 0, none⟩)] (fun y => decide (y < x)) hdq (fun w => w.heap[eb]? = some (.cells #[.int .i64 x] 3 (0, 0))) ((hs.only0 rfl).block heb (by simp)) (fun w o => o.block ((hs.only0 rfl).block heb (by simp)) (by simp)) (fun y w hw => below1_ret x eb y w hw) hlen
  rintro v w' ⟨⟨va, rfl, h1⟩, ho⟩; replace hs := hs.call0 ho
  obtain ⟨ad1, cp1, rfl, _⟩ := id h1
  obtain ⟨R1, hs, h1⟩ := (h1).read hs rfl
  repeat' (first | refine vs (k := ?_) | refine ps (k := ?_) | (refine st hs (k := ?_); intro w hs) | (refine stA hs (k := ?_); intro w hs) | (refine al hs (k := ?_); intro b w hz hs) | (refine bx hs (k := ?_); intro b w hz hs) | (refine bs hs (k := ?_); intro b w hz hs) | refine XS.nil ?_ | refine then_of ?_ | refine xc_seq ?_ | refine xc_block ?_ | refine block_normal ?_ | refine xc_ret ?_ | refine then_ret ?_ | refine block_ret ?_ | refine xc_skip ?_ | refine xc_exit ?_ | refine then_exit ?_ | refine loopS_exit ?_ | refine loopS_ret ?_ | refine cutB_ret ?_ | refine cutN_ret ?_ | refine cutN_exit ?_ | refine block_exit ?_ | (refine block_other ?_ ?_; exact rfl) | (refine xc_true ?_ ?_; exact rfl) | (refine xc_false ?_ ?_; exact rfl) | ((with_reducible apply xs_guard); exact rfl; exact rfl; intro c hc; (fail_if_success (have : true = c := hc)); (fail_if_success (have : false = c := hc)); cases c) | (refine xc_if rfl (fun hc => ?_) (fun hc => ?_)) | (refine xc_cond rfl (fun hc => ?_) (fun hc => ?_)))
  refine xc_region ?_ ?_; exact rfl
  refine vs (k := ?_)
  refine lh (cs := [.int .i64 x]) (off := 0) ((hs.only0 rfl).block heb (by simp)) (v := .int .i64 x) (by rfl) (k := ?_)
  (with_reducible apply xs_call); exact rfl; exact rfl; exact refBelow_ret _ xs x hlen _ (hq.only (hs.only0 rfl))
  rintro v w' ⟨h2, ho⟩; replace hs := hs.call0 ho
  obtain ⟨ad2, cp2, rfl, _⟩ := id h2
  obtain ⟨R2, hs, h2⟩ := (h2).read hs rfl
  repeat' (first | refine vs (k := ?_) | refine ps (k := ?_) | (refine st hs (k := ?_); intro w hs) | (refine stA hs (k := ?_); intro w hs) | (refine al hs (k := ?_); intro b w hz hs) | (refine bx hs (k := ?_); intro b w hz hs) | (refine bs hs (k := ?_); intro b w hz hs) | refine XS.nil ?_ | refine then_of ?_ | refine xc_seq ?_ | (refine xc_region ?_ ?_; exact rfl) | refine xc_block ?_ | refine block_normal ?_ | refine xc_ret ?_ | refine then_ret ?_ | refine block_ret ?_ | refine xc_skip ?_ | refine xc_exit ?_ | refine then_exit ?_ | refine loopS_exit ?_ | refine loopS_ret ?_ | refine cutB_ret ?_ | refine cutN_ret ?_ | refine cutN_exit ?_ | refine block_exit ?_ | (refine block_other ?_ ?_; exact rfl) | (refine xc_true ?_ ?_; exact rfl) | (refine xc_false ?_ ?_; exact rfl) | ((with_reducible apply xs_guard); exact rfl; exact rfl; intro c hc; (fail_if_success (have : true = c := hc)); (fail_if_success (have : false = c := hc)); cases c) | (refine xc_if rfl (fun hc => ?_) (fun hc => ?_)) | (refine xc_cond rfl (fun hc => ?_) (fun hc => ?_)))
  have hne : (decide (xs ≠ []) == decide (((xs.length : Nat) : Int) > 0)) = true := by
    rw [show decide (xs ≠ []) = decide (((xs.length : Nat) : Int) > 0) by apply decide_eq_decide.2; rw [← List.length_pos_iff]; omega]
    exact beq_self_eq_true _
  have hfl : (xs.filter (fun y => decide (y < x))).length ≤ xs.length := List.length_filter_le _ _
  have hne2 : (decide (xs.filter (fun y => decide (y < x)) ≠ []) == decide ((((xs.filter (fun y => decide (y < x))).length : Nat) : Int) > 0)) = true := by
    rw [show decide (xs.filter (fun y => decide (y < x)) ≠ []) = decide ((((xs.filter (fun y => decide (y < x))).length : Nat) : Int) > 0) by apply decide_eq_decide.2; rw [← List.length_pos_iff]; omega]
    exact beq_self_eq_true _
  generalize xs.filter (fun y => decide (y < x)) = ys at *
  by_cases hx : xs = []
  · have hR : ∀ {D : Ctx} {H : List Ent} {w' : World}, St w D H w' → olds H ++ D.dirty = [] → Hold [(eb, .cells #[.int .i64 x] 3 (0, 0), false)] w' := fun hs hd => hold_cons ((hs.only0 hd).block heb (by simp)) (fun _ h => by cases h)
    refine drH [] [(eb, .cells #[.int .i64 x] 3 (0, 0), false)] hs (k := ?_); intro hX w hs
    rw [show decide (xs ≠ []) = false by simp [hx]] at hne ⊢
    rw [show xs.headD 0 = 0 by rw [hx]; rfl]
    refine tk 0 hX (k := ?_)
    refine tk 2 hX (k := ?_)
    refine dt 1 hX (k := ?_)
    (with_reducible apply xs_call); exact rfl; exact rfl; exact setAll_ret tb xs F _ (h.only (hs.only0 rfl)) hlen
    rintro v w' ⟨hv, ho⟩; replace hs := hs.call0 ho
    repeat' (first | refine vs (k := ?_) | refine ps (k := ?_) | (refine st hs (k := ?_); intro w hs) | (refine stA hs (k := ?_); intro w hs) | (refine al hs (k := ?_); intro b w hz hs) | (refine bx hs (k := ?_); intro b w hz hs) | (refine bs hs (k := ?_); intro b w hz hs) | refine XS.nil ?_ | refine then_of ?_ | refine xc_seq ?_ | (refine xc_region ?_ ?_; exact rfl) | refine xc_block ?_ | refine block_normal ?_ | refine xc_ret ?_ | refine then_ret ?_ | refine block_ret ?_ | refine xc_skip ?_ | refine xc_exit ?_ | refine then_exit ?_ | refine loopS_exit ?_ | refine loopS_ret ?_ | refine cutB_ret ?_ | refine cutN_ret ?_ | refine cutN_exit ?_ | refine block_exit ?_ | (refine block_other ?_ ?_; exact rfl) | (refine xc_true ?_ ?_; exact rfl) | (refine xc_false ?_ ?_; exact rfl) | ((with_reducible apply xs_guard); exact rfl; exact rfl; intro c hc; (fail_if_success (have : true = c := hc)); (fail_if_success (have : false = c := hc)); cases c) | (refine xc_if rfl (fun hc => ?_) (fun hc => ?_)) | (refine xc_cond rfl (fun hc => ?_) (fun hc => ?_)))
    refine dn (k := ?_)
    refine dt 3 hX (k := ?_)
    (with_reducible apply xs_call); exact rfl; exact rfl; exact equal_ret _ _ xs xs (by omega) _ hv (hq.only (hs.only0 rfl))
    rintro v w' ⟨rfl, ho⟩; replace hs := hs.call0 ho
    rw [decide_eq_true rfl]
    repeat' (first | refine vs (k := ?_) | refine ps (k := ?_) | (refine st hs (k := ?_); intro w hs) | (refine stA hs (k := ?_); intro w hs) | (refine al hs (k := ?_); intro b w hz hs) | (refine bx hs (k := ?_); intro b w hz hs) | (refine bs hs (k := ?_); intro b w hz hs) | refine XS.nil ?_ | refine then_of ?_ | refine xc_seq ?_ | (refine xc_region ?_ ?_; exact rfl) | refine xc_block ?_ | refine block_normal ?_ | refine xc_ret ?_ | refine then_ret ?_ | refine block_ret ?_ | refine xc_skip ?_ | refine xc_exit ?_ | refine then_exit ?_ | refine loopS_exit ?_ | refine loopS_ret ?_ | refine cutB_ret ?_ | refine cutN_ret ?_ | refine cutN_exit ?_ | refine block_exit ?_ | (refine block_other ?_ ?_; exact rfl) | (refine xc_true ?_ ?_; exact rfl) | (refine xc_false ?_ ?_; exact rfl) | ((with_reducible apply xs_guard); exact rfl; exact rfl; intro c hc; (fail_if_success (have : true = c := hc)); (fail_if_success (have : false = c := hc)); cases c) | (refine xc_if rfl (fun hc => ?_) (fun hc => ?_)) | (refine xc_cond rfl (fun hc => ?_) (fun hc => ?_)))
    refine dn (k := ?_)
    refine tk 4 hX (k := ?_)
    refine tk 5 hX (k := ?_)
    refine tk 7 hX (k := ?_)
    refine tk 8 hX (k := ?_)
    refine dt 6 hX (k := ?_)
    (with_reducible apply xs_call); exact rfl; exact rfl; exact setLen_ret tb xs F _ (h.only (hs.only0 rfl))
    rintro v w' ⟨rfl, ho⟩; replace hs := hs.call0 ho
    repeat' (first | refine vs (k := ?_) | refine ps (k := ?_) | (refine st hs (k := ?_); intro w hs) | (refine stA hs (k := ?_); intro w hs) | (refine al hs (k := ?_); intro b w hz hs) | (refine bx hs (k := ?_); intro b w hz hs) | (refine bs hs (k := ?_); intro b w hz hs) | refine XS.nil ?_ | refine then_of ?_ | refine xc_seq ?_ | (refine xc_region ?_ ?_; exact rfl) | refine xc_block ?_ | refine block_normal ?_ | refine xc_ret ?_ | refine then_ret ?_ | refine block_ret ?_ | refine xc_skip ?_ | refine xc_exit ?_ | refine then_exit ?_ | refine loopS_exit ?_ | refine loopS_ret ?_ | refine cutB_ret ?_ | refine cutN_ret ?_ | refine cutN_exit ?_ | refine block_exit ?_ | (refine block_other ?_ ?_; exact rfl) | (refine xc_true ?_ ?_; exact rfl) | (refine xc_false ?_ ?_; exact rfl) | ((with_reducible apply xs_guard); exact rfl; exact rfl; intro c hc; (fail_if_success (have : true = c := hc)); (fail_if_success (have : false = c := hc)); cases c) | (refine xc_if rfl (fun hc => ?_) (fun hc => ?_)) | (refine xc_cond rfl (fun hc => ?_) (fun hc => ?_)))
    refine dn (k := ?_)
    refine tk 9 hX (k := ?_)
    refine xa_set 35 (v := .bool true) (congrArg Value.bool (beq_self_eq_true ((xs.length : Nat) : Int))) ?_
    refine tk 10 hX (k := ?_)
    refine tk 11 hX (k := ?_)
    refine tk 12 hX (k := ?_)
    refine tk 13 hX (k := ?_)
    refine tk 15 hX (k := ?_)
    refine tk 16 hX (k := ?_)
    refine dt 14 hX (k := ?_)
    (with_reducible apply xs_call); exact rfl; exact rfl; exact setHas_ret tb xs F x _ (h.only (hs.only0 rfl))
    rintro v w' ⟨rfl, ho⟩; replace hs := hs.call0 ho
    repeat' (first | refine vs (k := ?_) | refine ps (k := ?_) | (refine st hs (k := ?_); intro w hs) | (refine stA hs (k := ?_); intro w hs) | (refine al hs (k := ?_); intro b w hz hs) | (refine bx hs (k := ?_); intro b w hz hs) | (refine bs hs (k := ?_); intro b w hz hs) | refine XS.nil ?_ | refine then_of ?_ | refine xc_seq ?_ | (refine xc_region ?_ ?_; exact rfl) | refine xc_block ?_ | refine block_normal ?_ | refine xc_ret ?_ | refine then_ret ?_ | refine block_ret ?_ | refine xc_skip ?_ | refine xc_exit ?_ | refine then_exit ?_ | refine loopS_exit ?_ | refine loopS_ret ?_ | refine cutB_ret ?_ | refine cutN_ret ?_ | refine cutN_exit ?_ | refine block_exit ?_ | (refine block_other ?_ ?_; exact rfl) | (refine xc_true ?_ ?_; exact rfl) | (refine xc_false ?_ ?_; exact rfl) | ((with_reducible apply xs_guard); exact rfl; exact rfl; intro c hc; (fail_if_success (have : true = c := hc)); (fail_if_success (have : false = c := hc)); cases c) | (refine xc_if rfl (fun hc => ?_) (fun hc => ?_)) | (refine xc_cond rfl (fun hc => ?_) (fun hc => ?_)))
    refine dn (k := ?_)
    refine dt 17 hX (k := ?_)
    (with_reducible apply xs_call); exact rfl; exact rfl; exact refHas_ret _ xs x hlen _ (hq.only (hs.only0 rfl))
    rintro v w' ⟨rfl, ho⟩; replace hs := hs.call0 ho
    repeat' (first | refine vs (k := ?_) | refine ps (k := ?_) | (refine st hs (k := ?_); intro w hs) | (refine stA hs (k := ?_); intro w hs) | (refine al hs (k := ?_); intro b w hz hs) | (refine bx hs (k := ?_); intro b w hz hs) | (refine bs hs (k := ?_); intro b w hz hs) | refine XS.nil ?_ | refine then_of ?_ | refine xc_seq ?_ | (refine xc_region ?_ ?_; exact rfl) | refine xc_block ?_ | refine block_normal ?_ | refine xc_ret ?_ | refine then_ret ?_ | refine block_ret ?_ | refine xc_skip ?_ | refine xc_exit ?_ | refine then_exit ?_ | refine loopS_exit ?_ | refine loopS_ret ?_ | refine cutB_ret ?_ | refine cutN_ret ?_ | refine cutN_exit ?_ | refine block_exit ?_ | (refine block_other ?_ ?_; exact rfl) | (refine xc_true ?_ ?_; exact rfl) | (refine xc_false ?_ ?_; exact rfl) | ((with_reducible apply xs_guard); exact rfl; exact rfl; intro c hc; (fail_if_success (have : true = c := hc)); (fail_if_success (have : false = c := hc)); cases c) | (refine xc_if rfl (fun hc => ?_) (fun hc => ?_)) | (refine xc_cond rfl (fun hc => ?_) (fun hc => ?_)))
    refine dn (k := ?_)
    refine tk 18 hX (k := ?_)
    refine xa_set 44 (v := .bool true) (congrArg Value.bool (beq_self_eq_true (decide (x ∈ xs)))) ?_
    refine tk 19 hX (k := ?_)
    refine tk 20 hX (k := ?_)
    refine tk 21 hX (k := ?_)
    refine tk 22 hX (k := ?_)
    refine tk 23 hX (k := ?_)
    refine tk 24 hX (k := ?_)
    refine tk 25 hX (k := ?_)
    refine xa_set 51 (v := .bool true) (congrArg Value.bool hne) ?_
    refine tk 26 hX (k := ?_)
    refine tk 27 hX (k := ?_)
    refine tk 28 hX (k := ?_)
    refine tk 29 hX (k := ?_)
    refine tk 30 hX (k := ?_)
    refine tk 31 hX (k := ?_)
    refine tk 32 hX (k := ?_)
    refine tk 33 hX (k := ?_)
    refine tk 34 hX (k := ?_)
    refine pt 35 hX (k := ?_)
    refine pt 36 hX (k := ?_)
    refine pt 37 hX (k := ?_)
    refine pt 38 hX (k := ?_)
    refine pt 39 hX (k := ?_)
    refine pt 40 hX (k := ?_)
    refine pt 41 hX (k := ?_)
    refine pt 42 hX (k := ?_)
    refine tk 43 hX (k := ?_)
    refine tk 44 hX (k := ?_)
    refine tk 45 hX (k := ?_)
    refine tk 46 hX (k := ?_)
    refine tk 47 hX (k := ?_)
    refine dt 48 hX (k := ?_)
    (with_reducible apply xs_call); exact rfl; exact rfl; exact equal_ret _ _ ys ys (by omega) _ (h1 _ (fun e he => hs.ro e (by simp [he]))) (h2 _ (fun e he => hs.ro e (by simp [he])))
    rintro v w' ⟨rfl, ho⟩; replace hs := hs.call0 ho
    rw [decide_eq_true rfl]
    repeat' (first | refine vs (k := ?_) | refine ps (k := ?_) | (refine st hs (k := ?_); intro w hs) | (refine stA hs (k := ?_); intro w hs) | (refine al hs (k := ?_); intro b w hz hs) | (refine bx hs (k := ?_); intro b w hz hs) | (refine bs hs (k := ?_); intro b w hz hs) | refine XS.nil ?_ | refine then_of ?_ | refine xc_seq ?_ | (refine xc_region ?_ ?_; exact rfl) | refine xc_block ?_ | refine block_normal ?_ | refine xc_ret ?_ | refine then_ret ?_ | refine block_ret ?_ | refine xc_skip ?_ | refine xc_exit ?_ | refine then_exit ?_ | refine loopS_exit ?_ | refine loopS_ret ?_ | refine cutB_ret ?_ | refine cutN_ret ?_ | refine cutN_exit ?_ | refine block_exit ?_ | (refine block_other ?_ ?_; exact rfl) | (refine xc_true ?_ ?_; exact rfl) | (refine xc_false ?_ ?_; exact rfl) | ((with_reducible apply xs_guard); exact rfl; exact rfl; intro c hc; (fail_if_success (have : true = c := hc)); (fail_if_success (have : false = c := hc)); cases c) | (refine xc_if rfl (fun hc => ?_) (fun hc => ?_)) | (refine xc_cond rfl (fun hc => ?_) (fun hc => ?_)))
    refine dn (k := ?_)
    refine tk 49 hX (k := ?_)
    refine tk 50 hX (k := ?_)
    refine tk 51 hX (k := ?_)
    refine tk 52 hX (k := ?_)
    refine tk 53 hX (k := ?_)
    refine tk 54 hX (k := ?_)
    refine tk 55 hX (k := ?_)
    refine xa_set 81 (v := .bool true) (congrArg Value.bool hne2) ?_
    refine tk 56 hX (k := ?_)
    refine tk 57 hX (k := ?_)
    refine en (k := ?_)
    repeat' (first | refine vs (k := ?_) | refine ps (k := ?_) | (refine st hs (k := ?_); intro w hs) | (refine stA hs (k := ?_); intro w hs) | (refine al hs (k := ?_); intro b w hz hs) | (refine bx hs (k := ?_); intro b w hz hs) | (refine bs hs (k := ?_); intro b w hz hs) | refine XS.nil ?_ | refine then_of ?_ | refine xc_seq ?_ | (refine xc_region ?_ ?_; exact rfl) | refine xc_block ?_ | refine block_normal ?_ | refine xc_ret ?_ | refine then_ret ?_ | refine block_ret ?_ | refine xc_skip ?_ | refine xc_exit ?_ | refine then_exit ?_ | refine loopS_exit ?_ | refine loopS_ret ?_ | refine cutB_ret ?_ | refine cutN_ret ?_ | refine cutN_exit ?_ | refine block_exit ?_ | (refine block_other ?_ ?_; exact rfl) | (refine xc_true ?_ ?_; exact rfl) | (refine xc_false ?_ ?_; exact rfl) | ((with_reducible apply xs_guard); exact rfl; exact rfl; intro c hc; (fail_if_success (have : true = c := hc)); (fail_if_success (have : false = c := hc)); cases c) | (refine xc_if rfl (fun hc => ?_) (fun hc => ?_)) | (refine xc_cond rfl (fun hc => ?_) (fun hc => ?_)))
    first | refine rt (hq := ?_) | refine rt' (hq := ?_)
    exact ⟨rfl, o1.step (hs.only0 rfl) (by simp)⟩
  · obtain ⟨x0, xr, hxs⟩ : ∃ x0 xr, xs = x0 :: xr := by
      cases xs with
      | nil => exact absurd rfl hx
      | cons a b => exact ⟨a, b, rfl⟩
    obtain ⟨_, _, e0, hd0⟩ := id hq
    cases e0
    obtain ⟨b0, off0, cs0, fz0, rfl, hcap0, hb0, hcs0⟩ := hd0 hx
    have hc0 : cs0[off0 + (0 : Int).toNat * 1]? = some (.int .i64 x0) := by simpa using hcs0 0 x0 (by rw [hxs]; rfl)
    have hR : ∀ {D : Ctx} {H : List Ent} {w' : World}, St w D H w' → olds H ++ D.dirty = [] → Hold [(eb, .cells #[.int .i64 x] 3 (0, 0), false), (b0, .cells cs0.toArray 3 fz0, false)] w' := fun hs hd => hold_cons ((hs.only0 hd).block heb (by simp)) (hold_cons ((hs.only0 hd).block hb0 (by simp)) (fun _ h => by cases h))
    refine drH [] [(eb, .cells #[.int .i64 x] 3 (0, 0), false), (b0, .cells cs0.toArray 3 fz0, false)] hs (k := ?_); intro hX w hs
    rw [show decide (xs ≠ []) = true by simp [hx]] at hne ⊢
    rw [show xs.headD 0 = x0 by rw [hxs]; rfl]
    have hpos : (0 : Int) < xs.length := by rw [hxs]; simp only [List.length_cons]; omega
    refine tk 0 hX (k := ?_)
    refine tk 2 hX (k := ?_)
    refine dt 1 hX (k := ?_)
    (with_reducible apply xs_call); exact rfl; exact rfl; exact setAll_ret tb xs F _ (h.only (hs.only0 rfl)) hlen
    rintro v w' ⟨hv, ho⟩; replace hs := hs.call0 ho
    repeat' (first | refine vs (k := ?_) | refine ps (k := ?_) | (refine st hs (k := ?_); intro w hs) | (refine stA hs (k := ?_); intro w hs) | (refine al hs (k := ?_); intro b w hz hs) | (refine bx hs (k := ?_); intro b w hz hs) | (refine bs hs (k := ?_); intro b w hz hs) | refine XS.nil ?_ | refine then_of ?_ | refine xc_seq ?_ | (refine xc_region ?_ ?_; exact rfl) | refine xc_block ?_ | refine block_normal ?_ | refine xc_ret ?_ | refine then_ret ?_ | refine block_ret ?_ | refine xc_skip ?_ | refine xc_exit ?_ | refine then_exit ?_ | refine loopS_exit ?_ | refine loopS_ret ?_ | refine cutB_ret ?_ | refine cutN_ret ?_ | refine cutN_exit ?_ | refine block_exit ?_ | (refine block_other ?_ ?_; exact rfl) | (refine xc_true ?_ ?_; exact rfl) | (refine xc_false ?_ ?_; exact rfl) | ((with_reducible apply xs_guard); exact rfl; exact rfl; intro c hc; (fail_if_success (have : true = c := hc)); (fail_if_success (have : false = c := hc)); cases c) | (refine xc_if rfl (fun hc => ?_) (fun hc => ?_)) | (refine xc_cond rfl (fun hc => ?_) (fun hc => ?_)))
    refine dn (k := ?_)
    refine dt 3 hX (k := ?_)
    (with_reducible apply xs_call); exact rfl; exact rfl; exact equal_ret _ _ xs xs (by omega) _ hv (hq.only (hs.only0 rfl))
    rintro v w' ⟨rfl, ho⟩; replace hs := hs.call0 ho
    rw [decide_eq_true rfl]
    repeat' (first | refine vs (k := ?_) | refine ps (k := ?_) | (refine st hs (k := ?_); intro w hs) | (refine stA hs (k := ?_); intro w hs) | (refine al hs (k := ?_); intro b w hz hs) | (refine bx hs (k := ?_); intro b w hz hs) | (refine bs hs (k := ?_); intro b w hz hs) | refine XS.nil ?_ | refine then_of ?_ | refine xc_seq ?_ | (refine xc_region ?_ ?_; exact rfl) | refine xc_block ?_ | refine block_normal ?_ | refine xc_ret ?_ | refine then_ret ?_ | refine block_ret ?_ | refine xc_skip ?_ | refine xc_exit ?_ | refine then_exit ?_ | refine loopS_exit ?_ | refine loopS_ret ?_ | refine cutB_ret ?_ | refine cutN_ret ?_ | refine cutN_exit ?_ | refine block_exit ?_ | (refine block_other ?_ ?_; exact rfl) | (refine xc_true ?_ ?_; exact rfl) | (refine xc_false ?_ ?_; exact rfl) | ((with_reducible apply xs_guard); exact rfl; exact rfl; intro c hc; (fail_if_success (have : true = c := hc)); (fail_if_success (have : false = c := hc)); cases c) | (refine xc_if rfl (fun hc => ?_) (fun hc => ?_)) | (refine xc_cond rfl (fun hc => ?_) (fun hc => ?_)))
    refine dn (k := ?_)
    refine tk 4 hX (k := ?_)
    refine tk 5 hX (k := ?_)
    refine tk 7 hX (k := ?_)
    refine tk 8 hX (k := ?_)
    refine dt 6 hX (k := ?_)
    (with_reducible apply xs_call); exact rfl; exact rfl; exact setLen_ret tb xs F _ (h.only (hs.only0 rfl))
    rintro v w' ⟨rfl, ho⟩; replace hs := hs.call0 ho
    repeat' (first | refine vs (k := ?_) | refine ps (k := ?_) | (refine st hs (k := ?_); intro w hs) | (refine stA hs (k := ?_); intro w hs) | (refine al hs (k := ?_); intro b w hz hs) | (refine bx hs (k := ?_); intro b w hz hs) | (refine bs hs (k := ?_); intro b w hz hs) | refine XS.nil ?_ | refine then_of ?_ | refine xc_seq ?_ | (refine xc_region ?_ ?_; exact rfl) | refine xc_block ?_ | refine block_normal ?_ | refine xc_ret ?_ | refine then_ret ?_ | refine block_ret ?_ | refine xc_skip ?_ | refine xc_exit ?_ | refine then_exit ?_ | refine loopS_exit ?_ | refine loopS_ret ?_ | refine cutB_ret ?_ | refine cutN_ret ?_ | refine cutN_exit ?_ | refine block_exit ?_ | (refine block_other ?_ ?_; exact rfl) | (refine xc_true ?_ ?_; exact rfl) | (refine xc_false ?_ ?_; exact rfl) | ((with_reducible apply xs_guard); exact rfl; exact rfl; intro c hc; (fail_if_success (have : true = c := hc)); (fail_if_success (have : false = c := hc)); cases c) | (refine xc_if rfl (fun hc => ?_) (fun hc => ?_)) | (refine xc_cond rfl (fun hc => ?_) (fun hc => ?_)))
    refine dn (k := ?_)
    refine tk 9 hX (k := ?_)
    refine xa_set 35 (v := .bool true) (congrArg Value.bool (beq_self_eq_true ((xs.length : Nat) : Int))) ?_
    refine tk 10 hX (k := ?_)
    refine tk 11 hX (k := ?_)
    refine tk 12 hX (k := ?_)
    refine tk 13 hX (k := ?_)
    refine tk 15 hX (k := ?_)
    refine tk 16 hX (k := ?_)
    refine dt 14 hX (k := ?_)
    (with_reducible apply xs_call); exact rfl; exact rfl; exact setHas_ret tb xs F x _ (h.only (hs.only0 rfl))
    rintro v w' ⟨rfl, ho⟩; replace hs := hs.call0 ho
    repeat' (first | refine vs (k := ?_) | refine ps (k := ?_) | (refine st hs (k := ?_); intro w hs) | (refine stA hs (k := ?_); intro w hs) | (refine al hs (k := ?_); intro b w hz hs) | (refine bx hs (k := ?_); intro b w hz hs) | (refine bs hs (k := ?_); intro b w hz hs) | refine XS.nil ?_ | refine then_of ?_ | refine xc_seq ?_ | (refine xc_region ?_ ?_; exact rfl) | refine xc_block ?_ | refine block_normal ?_ | refine xc_ret ?_ | refine then_ret ?_ | refine block_ret ?_ | refine xc_skip ?_ | refine xc_exit ?_ | refine then_exit ?_ | refine loopS_exit ?_ | refine loopS_ret ?_ | refine cutB_ret ?_ | refine cutN_ret ?_ | refine cutN_exit ?_ | refine block_exit ?_ | (refine block_other ?_ ?_; exact rfl) | (refine xc_true ?_ ?_; exact rfl) | (refine xc_false ?_ ?_; exact rfl) | ((with_reducible apply xs_guard); exact rfl; exact rfl; intro c hc; (fail_if_success (have : true = c := hc)); (fail_if_success (have : false = c := hc)); cases c) | (refine xc_if rfl (fun hc => ?_) (fun hc => ?_)) | (refine xc_cond rfl (fun hc => ?_) (fun hc => ?_)))
    refine dn (k := ?_)
    refine dt 17 hX (k := ?_)
    (with_reducible apply xs_call); exact rfl; exact rfl; exact refHas_ret _ xs x hlen _ (hq.only (hs.only0 rfl))
    rintro v w' ⟨rfl, ho⟩; replace hs := hs.call0 ho
    repeat' (first | refine vs (k := ?_) | refine ps (k := ?_) | (refine st hs (k := ?_); intro w hs) | (refine stA hs (k := ?_); intro w hs) | (refine al hs (k := ?_); intro b w hz hs) | (refine bx hs (k := ?_); intro b w hz hs) | (refine bs hs (k := ?_); intro b w hz hs) | refine XS.nil ?_ | refine then_of ?_ | refine xc_seq ?_ | (refine xc_region ?_ ?_; exact rfl) | refine xc_block ?_ | refine block_normal ?_ | refine xc_ret ?_ | refine then_ret ?_ | refine block_ret ?_ | refine xc_skip ?_ | refine xc_exit ?_ | refine then_exit ?_ | refine loopS_exit ?_ | refine loopS_ret ?_ | refine cutB_ret ?_ | refine cutN_ret ?_ | refine cutN_exit ?_ | refine block_exit ?_ | (refine block_other ?_ ?_; exact rfl) | (refine xc_true ?_ ?_; exact rfl) | (refine xc_false ?_ ?_; exact rfl) | ((with_reducible apply xs_guard); exact rfl; exact rfl; intro c hc; (fail_if_success (have : true = c := hc)); (fail_if_success (have : false = c := hc)); cases c) | (refine xc_if rfl (fun hc => ?_) (fun hc => ?_)) | (refine xc_cond rfl (fun hc => ?_) (fun hc => ?_)))
    refine dn (k := ?_)
    refine tk 18 hX (k := ?_)
    refine xa_set 44 (v := .bool true) (congrArg Value.bool (beq_self_eq_true (decide (x ∈ xs)))) ?_
    refine tk 19 hX (k := ?_)
    refine tk 20 hX (k := ?_)
    refine tk 21 hX (k := ?_)
    refine tk 22 hX (k := ?_)
    refine tk 23 hX (k := ?_)
    refine tk 24 hX (k := ?_)
    refine tk 25 hX (k := ?_)
    refine xa_set 51 (v := .bool true) (congrArg Value.bool hne) ?_
    refine tk 26 hX (k := ?_)
    refine tk 27 hX (k := ?_)
    refine tk 28 hX (k := ?_)
    refine tk 29 hX (k := ?_)
    refine tk 30 hX (k := ?_)
    refine pt 31 hX (k := ?_)
    refine pt 32 hX (k := ?_)
    refine tk 33 hX (k := ?_)
    refine tk 34 hX (k := ?_)
    refine tk 35 hX (k := ?_)
    refine tk 36 hX (k := ?_)
    refine tk 37 hX (k := ?_)
    refine tk 38 hX (k := ?_)
    refine tk 39 hX (hr := fun w' hH => r_indexAddr tabOk rfl rfl rfl (by decide) hpos) (k := ?_)
    refine tk 40 hX (v := .int .i64 x0) (hr := fun w' hH => r_load tabOk rfl rfl (hH rfl) (At.tail At.head) hc0) (k := ?_)
    refine tk 41 hX (k := ?_)
    refine xa_set 67 (v := .bool true) (congrArg Value.bool (beq_self_eq_true x0)) ?_
    refine tk 42 hX (k := ?_)
    refine tk 43 hX (k := ?_)
    refine tk 44 hX (k := ?_)
    refine tk 45 hX (k := ?_)
    refine tk 46 hX (k := ?_)
    refine tk 47 hX (k := ?_)
    refine dt 48 hX (k := ?_)
    (with_reducible apply xs_call); exact rfl; exact rfl; exact equal_ret _ _ ys ys (by omega) _ (h1 _ (fun e he => hs.ro e (by simp [he]))) (h2 _ (fun e he => hs.ro e (by simp [he])))
    rintro v w' ⟨rfl, ho⟩; replace hs := hs.call0 ho
    rw [decide_eq_true rfl]
    repeat' (first | refine vs (k := ?_) | refine ps (k := ?_) | (refine st hs (k := ?_); intro w hs) | (refine stA hs (k := ?_); intro w hs) | (refine al hs (k := ?_); intro b w hz hs) | (refine bx hs (k := ?_); intro b w hz hs) | (refine bs hs (k := ?_); intro b w hz hs) | refine XS.nil ?_ | refine then_of ?_ | refine xc_seq ?_ | (refine xc_region ?_ ?_; exact rfl) | refine xc_block ?_ | refine block_normal ?_ | refine xc_ret ?_ | refine then_ret ?_ | refine block_ret ?_ | refine xc_skip ?_ | refine xc_exit ?_ | refine then_exit ?_ | refine loopS_exit ?_ | refine loopS_ret ?_ | refine cutB_ret ?_ | refine cutN_ret ?_ | refine cutN_exit ?_ | refine block_exit ?_ | (refine block_other ?_ ?_; exact rfl) | (refine xc_true ?_ ?_; exact rfl) | (refine xc_false ?_ ?_; exact rfl) | ((with_reducible apply xs_guard); exact rfl; exact rfl; intro c hc; (fail_if_success (have : true = c := hc)); (fail_if_success (have : false = c := hc)); cases c) | (refine xc_if rfl (fun hc => ?_) (fun hc => ?_)) | (refine xc_cond rfl (fun hc => ?_) (fun hc => ?_)))
    refine dn (k := ?_)
    refine tk 49 hX (k := ?_)
    refine tk 50 hX (k := ?_)
    refine tk 51 hX (k := ?_)
    refine tk 52 hX (k := ?_)
    refine tk 53 hX (k := ?_)
    refine tk 54 hX (k := ?_)
    refine tk 55 hX (k := ?_)
    refine xa_set 81 (v := .bool true) (congrArg Value.bool hne2) ?_
    refine tk 56 hX (k := ?_)
    refine tk 57 hX (k := ?_)
    refine en (k := ?_)
    repeat' (first | refine vs (k := ?_) | refine ps (k := ?_) | (refine st hs (k := ?_); intro w hs) | (refine stA hs (k := ?_); intro w hs) | (refine al hs (k := ?_); intro b w hz hs) | (refine bx hs (k := ?_); intro b w hz hs) | (refine bs hs (k := ?_); intro b w hz hs) | refine XS.nil ?_ | refine then_of ?_ | refine xc_seq ?_ | (refine xc_region ?_ ?_; exact rfl) | refine xc_block ?_ | refine block_normal ?_ | refine xc_ret ?_ | refine then_ret ?_ | refine block_ret ?_ | refine xc_skip ?_ | refine xc_exit ?_ | refine then_exit ?_ | refine loopS_exit ?_ | refine loopS_ret ?_ | refine cutB_ret ?_ | refine cutN_ret ?_ | refine cutN_exit ?_ | refine block_exit ?_ | (refine block_other ?_ ?_; exact rfl) | (refine xc_true ?_ ?_; exact rfl) | (refine xc_false ?_ ?_; exact rfl) | ((with_reducible apply xs_guard); exact rfl; exact rfl; intro c hc; (fail_if_success (have : true = c := hc)); (fail_if_success (have : false = c := hc)); cases c) | (refine xc_if rfl (fun hc => ?_) (fun hc => ?_)) | (refine xc_cond rfl (fun hc => ?_) (fun hc => ?_)))
    first | refine rt (hq := ?_) | refine rt' (hq := ?_)
    exact ⟨rfl, o1.step (hs.only0 rfl) (by simp)⟩
end Go.Proofs.YtjooegonmdmajaaX
