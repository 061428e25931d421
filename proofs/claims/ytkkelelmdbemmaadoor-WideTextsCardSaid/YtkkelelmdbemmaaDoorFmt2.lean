/- strconv.FormatUint at base 10, as a contract of this calculus. -/
import Derived.Test.YtkkelelmdbemmaaDoorFmt
import Derived.Test.YtkkelelmdbemmaaDoorK2
set_option linter.unusedVariables false
set_option linter.unusedSimpArgs false
set_option maxRecDepth 100000
namespace Go.Proofs.YtkkelelmdbemmaaDoorX
open Go Go.RowKit Go.Sort Go.Lib
attribute [local irreducible] XS XC XA thenE blockE retE loopE loopS cutB cutN doneE SE
theorem ret_of_calls {P : Program} {f : FuncId} {args : Array Value} {w : World} {Q : Value → World → Prop} (he : entersB P f = true) (h : Calls P f args w fun e w' => ∃ v, e = .returned v ∧ Q v w') : Ret P f args w Q := .inl ⟨enters_run he args w, h⟩
/-- The table of the powers of ten. -/
abbrev Pows (w : World) : Prop := Lib.TabIs Tryd.prog w "internal/strconv.uint64pow10" .u64 Lib.pow10Tab
theorem tab_only {w w' : World} (h : Pows w) (ho : Only [] w w') : Pows w' := by
  unfold Pows TabIs World.var? at *
  cases hg : Tryd.prog.globalNamed "internal/strconv.uint64pow10" with
  | none => simp [hg] at h
  | some g =>
    simp only [hg, Option.bind_some] at h ⊢
    have hlt : g < w.heap.size := by
      rcases Nat.lt_or_ge g w.heap.size with h' | h'
      · exact h'
      · rw [Array.getElem?_eq_none h'] at h; simp at h
    rw [ho.frame g hlt (by simp)]
    exact h
theorem grow_only (w : World) (k : Nat) (os : Array Obj) : Only [] w (grow (w.drewN k) os) :=
  ⟨rfl, rfl, rfl, by show w.heap.size ≤ (w.heap ++ os).size; rw [Array.size_append]; exact Nat.le_add_right _ _, fun i hi _ => by show (w.heap ++ os)[i]? = _; rw [Array.getElem?_append_left hi]⟩
theorem fmtIn_ret (u : Nat) (hu : u < 18446744073709551616) (w0 : World) (ht : Pows w0) : Ret Tryd.prog 35 #[.int .u64 (u : Int), .int .i64 10] w0 fun v w' => v = .string ⟨(Lib.decDigits u).toArray⟩ ∧ Only [] w0 w' := by
  refine ret_of_calls (by kernel_rfl) ?_
  by_cases h : u < 100
  · exact (fmt_small u h w0).mono fun e w' ⟨he, k, os, hw⟩ => ⟨_, he, rfl, hw ▸ grow_only w0 k os⟩
  · exact (fmt_big u (by omega) hu w0 ht).mono fun e w' ⟨he, k, os, hw⟩ => ⟨_, he, rfl, hw ▸ grow_only w0 k os⟩
theorem fmt_ret (u : Nat) (hu : u < 18446744073709551616) (w0 : World) (ht : Pows w0) : Ret Tryd.prog 23 #[.int .u64 (u : Int), .int .i64 10] w0 fun v w' => v = .string ⟨(Lib.decDigits u).toArray⟩ ∧ Only [] w0 w' := by
  have hs := St.nil w0
  refine ret_of_xc Tryd.func23 (by kernel_rfl) rfl Tryd.ntmps23 rfl rfl rfl ?_
  repeat' (first | refine vs (k := ?_) | refine ps (k := ?_) | (refine st hs (k := ?_); intro w hs) | (refine stA hs (k := ?_); intro w hs) | (refine al hs (k := ?_); intro b w hz hs) | (refine bx hs (k := ?_); intro b w hz hs) | (refine bs hs (k := ?_); intro b w hz hs) | refine XS.nil ?_ | refine then_of ?_ | refine xc_seq ?_ | (refine xc_region ?_ ?_; exact rfl) | refine xc_block ?_ | refine block_normal ?_ | refine xc_ret ?_ | refine then_ret ?_ | refine block_ret ?_ | refine xc_skip ?_ | refine xc_exit ?_ | refine then_exit ?_ | refine loopS_exit ?_ | refine loopS_ret ?_ | refine cutB_ret ?_ | refine cutN_ret ?_ | refine cutN_exit ?_ | refine block_exit ?_ | (refine block_other ?_ ?_; exact rfl) | (refine xc_true ?_ ?_; exact rfl) | (refine xc_false ?_ ?_; exact rfl) | ((with_reducible apply xs_guard); exact rfl; exact rfl; intro c hc; (fail_if_success (have : true = c := hc)); (fail_if_success (have : false = c := hc)); cases c) | (refine xc_if rfl (fun hc => ?_) (fun hc => ?_)) | (refine xc_cond rfl (fun hc => ?_) (fun hc => ?_)))
  (with_reducible apply xs_call); exact rfl; exact rfl; exact fmtIn_ret u hu _ (tab_only ht (hs.only0 rfl))
  rintro v w' ⟨rfl, ho⟩; replace hs := hs.call0 ho; repeat' (first | refine vs (k := ?_) | refine ps (k := ?_) | (refine st hs (k := ?_); intro w hs) | (refine stA hs (k := ?_); intro w hs) | (refine al hs (k := ?_); intro b w hz hs) | (refine bx hs (k := ?_); intro b w hz hs) | (refine bs hs (k := ?_); intro b w hz hs) | refine XS.nil ?_ | refine then_of ?_ | refine xc_seq ?_ | (refine xc_region ?_ ?_; exact rfl) | refine xc_block ?_ | refine block_normal ?_ | refine xc_ret ?_ | refine then_ret ?_ | refine block_ret ?_ | refine xc_skip ?_ | refine xc_exit ?_ | refine then_exit ?_ | refine loopS_exit ?_ | refine loopS_ret ?_ | refine cutB_ret ?_ | refine cutN_ret ?_ | refine cutN_exit ?_ | refine block_exit ?_ | (refine block_other ?_ ?_; exact rfl) | (refine xc_true ?_ ?_; exact rfl) | (refine xc_false ?_ ?_; exact rfl) | ((with_reducible apply xs_guard); exact rfl; exact rfl; intro c hc; (fail_if_success (have : true = c := hc)); (fail_if_success (have : false = c := hc)); cases c) | (refine xc_if rfl (fun hc => ?_) (fun hc => ?_)) | (refine xc_cond rfl (fun hc => ?_) (fun hc => ?_)))
  first | refine rt (hq := ?_) | refine rt' (hq := ?_)
  exact ⟨rfl, hs.only0 rfl⟩
end Go.Proofs.YtkkelelmdbemmaaDoorX
