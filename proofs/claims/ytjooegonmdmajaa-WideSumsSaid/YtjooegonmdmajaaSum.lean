/- Layer 1: wide.Sum and the body of law01.WideSums. -/
import Derived.Test.YtjooegonmdmajaaLaw1d
import Derived.Test.YtjooegonmdmajaaLaw1b
import Derived.Test.YtjooegonmdmajaaK2
set_option linter.unusedVariables false
set_option linter.unusedSimpArgs false
set_option maxRecDepth 100000
namespace Go.Proofs.YtjooegonmdmajaaX
open Go Go.RowKit
attribute [local irreducible] XS XC XA thenE blockE retE loopE loopS cutB cutN doneE SE
/-- A slice of two-word numbers. -/
def WAt (w : World) (sl : Value) (xs : List Int) : Prop :=
  ∃ ad cap, sl = .slice ad xs.length cap ∧ (xs ≠ [] → ∃ (b off : Nat) (cs : List Value) (E : TypeId) (fz : Nat × Nat), ad = some ⟨b, off, none⟩ ∧ w.heap[b]? = some (.cells cs.toArray E fz) ∧
    ∀ (i : Nat) (x : Int), xs[i]? = some x → cs[off + i * 2]? = some (.int .i64 (x / 18446744073709551616)) ∧ cs[off + i * 2 + 1]? = some (.int .u64 (x % 18446744073709551616)))
theorem WAt.only {w w' : World} {sl : Value} {xs : List Int} (h : WAt w sl xs) (ho : Only [] w w') : WAt w' sl xs := by
  obtain ⟨ad, cap, rfl, h⟩ := h
  refine ⟨ad, cap, rfl, fun hn => ?_⟩
  obtain ⟨b, off, cs, E, fz, h1, h2, h3⟩ := h hn
  exact ⟨b, off, cs, E, fz, h1, ho.block h2 (by simp), h3⟩
def psum (xs : List Int) (i : Nat) : Int := (xs.take i).sum
theorem psum_succ {xs : List Int} {i : Nat} {x : Int} (h : xs[i]? = some x) : psum xs (i + 1) = psum xs i + x := by
  unfold psum
  rw [List.take_add_one, h, List.sum_append]
  simp
theorem psum_zero (xs : List Int) : psum xs 0 = 0 := by simp [psum]
theorem inW_zero : InW 0 := by unfold InW; omega
/-- All sums on the way are two-word numbers. -/
def InAll (xs : List Int) (n : Nat) : Prop := ∀ j, j ≤ n → InW (psum xs j)
theorem InAll.zero (xs : List Int) : InAll xs 0 := fun j hj => by
  have h0 : j = 0 := Nat.le_zero.1 hj
  rw [h0, psum_zero]
  exact inW_zero
theorem InAll.succ {xs : List Int} {n : Nat} (h : InAll xs n) (h1 : InW (psum xs (n + 1))) : InAll xs (n + 1) := fun j hj => by
  rcases Nat.lt_or_ge n j with h2 | h2
  · obtain rfl : j = n + 1 := by omega
    exact h1
  · exact h j h2
theorem next64 {i m : Nat} (h : i < m) (hm : m ≤ 9223372036854775807) : IntKind.i64.wrap ((i : Int) + 1) = ((i + 1 : Nat) : Int) := by
  have e1 : (i : Int) + 1 = ((i + 1 : Nat) : Int) := by omega
  rw [e1]
  exact i64_small (by omega) (by omega)
theorem sum_ret (xs : List Int) (sl : Value) (hin : ∀ (i : Nat) (x : Int), xs[i]? = some x → InW x) (hm : xs.length ≤ 9223372036854775807) (w0 : World) (hW : WAt w0 sl xs) : Ret Try.prog 32 #[sl] w0 fun v w' =>
    (InAll xs xs.length ∧ v = .tuple #[wv (psum xs xs.length), .bool true] ∨ (∃ j, j ≤ xs.length ∧ ¬ InW (psum xs j)) ∧ v = .tuple #[wv 0, .bool false]) ∧ Only [] w0 w' := by
  obtain ⟨ad, cap, rfl, hD⟩ := hW
  have hs := St.nil w0
  refine ret_of_xc Try.func32 (by kernel_rfl) rfl Try.ntmps32 rfl rfl rfl ?_
  refine xc_seq ?_
  refine xc_region ?_ ?_; exact rfl
  refine al hs (k := ?_); intro b2 w hz hs
  refine vs (k := ?_)
  refine XS.nil ?_
  refine then_of ?_
  refine xc_seq ?_
  refine xc_region ?_ ?_; exact rfl
  refine al hs (k := ?_); intro b4 w hz hs
  repeat' (first | refine vs (k := ?_) | refine ps (k := ?_) | (refine st hs (k := ?_); intro w hs) | (refine stA hs (k := ?_); intro w hs) | (refine al hs (k := ?_); intro b w hz hs) | (refine bx hs (k := ?_); intro b w hz hs) | (refine bs hs (k := ?_); intro b w hz hs) | refine XS.nil ?_ | refine then_of ?_ | refine xc_seq ?_ | (refine xc_region ?_ ?_; exact rfl) | refine xc_block ?_ | refine block_normal ?_ | refine xc_ret ?_ | refine then_ret ?_ | refine block_ret ?_ | refine xc_skip ?_ | refine xc_exit ?_ | refine then_exit ?_ | refine loopS_exit ?_ | refine loopS_ret ?_ | refine cutB_ret ?_ | refine cutN_ret ?_ | refine cutN_exit ?_ | refine block_exit ?_ | (refine block_other ?_ ?_; exact rfl) | (refine xc_true ?_ ?_; exact rfl) | (refine xc_false ?_ ?_; exact rfl) | ((with_reducible apply xs_guard); exact rfl; exact rfl; intro c hc; fail_if_success (have : true = c := hc); cases c) | (refine xc_if rfl (fun hc => ?_) (fun hc => ?_)) | (refine xc_cond rfl (fun hc => ?_) (fun hc => ?_)))
  refine xc_cutB (fun (_ : Unit) => [(2, .pointer (some ⟨b2, 0, none⟩)), (4, .pointer (some ⟨b4, 0, none⟩))])
    (fun _ w => InAll xs xs.length ∧ St w0 D0 [(b4, .cells #[.int .i64 (psum xs xs.length / 18446744073709551616), .int .u64 (psum xs xs.length % 18446744073709551616)] 35, true), (b2, .cells #[.int .i64 0, .int .u64 0] 35, true)] w) ?_ ?_
  · refine xc_loopS (fun (i : Nat) => [(2, .pointer (some ⟨b2, 0, none⟩)), (4, .pointer (some ⟨b4, 0, none⟩)), (9, .slice ad xs.length cap), (10, .int .i64 (xs.length : Nat)), (11, .int .i64 (i : Nat))])
      (fun i w => i ≤ xs.length ∧ InAll xs i ∧ St w0 D0 [(b4, .cells #[.int .i64 (psum xs i / 18446744073709551616), .int .u64 (psum xs i % 18446744073709551616)] 35, true), (b2, .cells #[.int .i64 0, .int .u64 0] 35, true)] w)
      (fun i => xs.length - i) 0 (by (repeat (first | exact agree_nil | (apply agree_cons; exact rfl)))) ⟨Nat.zero_le _, InAll.zero xs, by rw [psum_zero]; exact hs⟩ fun i env w ⟨hi, hf, hs⟩ => ?_
    repeat' (first | refine vs (k := ?_) | refine ps (k := ?_) | (refine st hs (k := ?_); intro w hs) | (refine stA hs (k := ?_); intro w hs) | (refine al hs (k := ?_); intro b w hz hs) | (refine bx hs (k := ?_); intro b w hz hs) | (refine bs hs (k := ?_); intro b w hz hs) | refine XS.nil ?_ | refine then_of ?_ | refine xc_seq ?_ | (refine xc_region ?_ ?_; exact rfl) | refine xc_block ?_ | refine block_normal ?_ | refine xc_ret ?_ | refine then_ret ?_ | refine block_ret ?_ | refine xc_skip ?_ | refine xc_exit ?_ | refine then_exit ?_ | refine loopS_exit ?_ | refine loopS_ret ?_ | refine cutB_ret ?_ | refine cutN_ret ?_ | refine cutN_exit ?_ | refine block_exit ?_ | (refine block_other ?_ ?_; exact rfl) | (refine xc_true ?_ ?_; exact rfl) | (refine xc_false ?_ ?_; exact rfl) | ((with_reducible apply xs_guard); exact rfl; exact rfl; intro c hc; fail_if_success (have : true = c := hc); cases c) | (refine xc_if rfl (fun hc => ?_) (fun hc => ?_)) | (refine xc_cond rfl (fun hc => ?_) (fun hc => ?_)))
    · have hlt : i < xs.length := by omega
      obtain ⟨b, off, cs, E, fz, rfl, hb, hcs⟩ := hD (fun h => by subst h; cases hlt)
      obtain ⟨h0, h1⟩ := hcs i _ (List.getElem?_eq_getElem hlt)
      have hx := hin i _ (List.getElem?_eq_getElem hlt)
      have hps := psum_succ (List.getElem?_eq_getElem hlt)
      generalize xs[i] = x at *
      refine ix (h0 := (by omega)) (h1 := (by omega)) (k := ?_)
      refine lh2 ((hs.only0 rfl).block hb (by simp)) h0 h1 (k := ?_)
      refine al hs (k := ?_); intro b6 w hz hs
      repeat' (first | refine vs (k := ?_) | refine ps (k := ?_) | (refine st hs (k := ?_); intro w hs) | (refine stA hs (k := ?_); intro w hs) | (refine al hs (k := ?_); intro b w hz hs) | (refine bx hs (k := ?_); intro b w hz hs) | (refine bs hs (k := ?_); intro b w hz hs) | refine XS.nil ?_ | refine then_of ?_ | refine xc_seq ?_ | (refine xc_region ?_ ?_; exact rfl) | refine xc_block ?_ | refine block_normal ?_ | refine xc_ret ?_ | refine then_ret ?_ | refine block_ret ?_ | refine xc_skip ?_ | refine xc_exit ?_ | refine then_exit ?_ | refine loopS_exit ?_ | refine loopS_ret ?_ | refine cutB_ret ?_ | refine cutN_ret ?_ | refine cutN_exit ?_ | refine block_exit ?_ | (refine block_other ?_ ?_; exact rfl) | (refine xc_true ?_ ?_; exact rfl) | (refine xc_false ?_ ?_; exact rfl) | ((with_reducible apply xs_guard); exact rfl; exact rfl; intro c hc; fail_if_success (have : true = c := hc); cases c) | (refine xc_if rfl (fun hc => ?_) (fun hc => ?_)) | (refine xc_cond rfl (fun hc => ?_) (fun hc => ?_)))
      (with_reducible apply xs_call); exact rfl; exact rfl; exact add_ret (psum xs i) x (hf i (Nat.le_refl _)) hx _
      rintro v w' ⟨rfl, ho⟩; replace hs := hs.call0 ho
      rcases tellV_cases (psum xs i + x) with ⟨hin1, e⟩ | ⟨hin1, e⟩
      · rw [e]
        repeat' (first | refine vs (k := ?_) | refine ps (k := ?_) | (refine st hs (k := ?_); intro w hs) | (refine stA hs (k := ?_); intro w hs) | (refine al hs (k := ?_); intro b w hz hs) | (refine bx hs (k := ?_); intro b w hz hs) | (refine bs hs (k := ?_); intro b w hz hs) | refine XS.nil ?_ | refine then_of ?_ | refine xc_seq ?_ | (refine xc_region ?_ ?_; exact rfl) | refine xc_block ?_ | refine block_normal ?_ | refine xc_ret ?_ | refine then_ret ?_ | refine block_ret ?_ | refine xc_skip ?_ | refine xc_exit ?_ | refine then_exit ?_ | refine loopS_exit ?_ | refine loopS_ret ?_ | refine cutB_ret ?_ | refine cutN_ret ?_ | refine cutN_exit ?_ | refine block_exit ?_ | (refine block_other ?_ ?_; exact rfl) | (refine xc_true ?_ ?_; exact rfl) | (refine xc_false ?_ ?_; exact rfl) | ((with_reducible apply xs_guard); exact rfl; exact rfl; intro c hc; fail_if_success (have : true = c := hc); cases c) | (refine xc_if rfl (fun hc => ?_) (fun hc => ?_)) | (refine xc_cond rfl (fun hc => ?_) (fun hc => ?_)))
        have ei := next64 hlt hm
        exact loopS_next (i + 1) (by omega) (by (repeat (first | exact agree_nil | (apply agree_cons; first | exact rfl | exact congrArg (Value.int .i64) ei)))) ⟨by omega, hf.succ (by rw [hps]; exact hin1), by rw [hps]; exact hs.forgetNew.forgetNew⟩
      · rw [e]
        repeat' (first | refine vs (k := ?_) | refine ps (k := ?_) | (refine st hs (k := ?_); intro w hs) | (refine stA hs (k := ?_); intro w hs) | (refine al hs (k := ?_); intro b w hz hs) | (refine bx hs (k := ?_); intro b w hz hs) | (refine bs hs (k := ?_); intro b w hz hs) | refine XS.nil ?_ | refine then_of ?_ | refine xc_seq ?_ | (refine xc_region ?_ ?_; exact rfl) | refine xc_block ?_ | refine block_normal ?_ | refine xc_ret ?_ | refine then_ret ?_ | refine block_ret ?_ | refine xc_skip ?_ | refine xc_exit ?_ | refine then_exit ?_ | refine loopS_exit ?_ | refine loopS_ret ?_ | refine cutB_ret ?_ | refine cutN_ret ?_ | refine cutN_exit ?_ | refine block_exit ?_ | (refine block_other ?_ ?_; exact rfl) | (refine xc_true ?_ ?_; exact rfl) | (refine xc_false ?_ ?_; exact rfl) | ((with_reducible apply xs_guard); exact rfl; exact rfl; intro c hc; fail_if_success (have : true = c := hc); cases c) | (refine xc_if rfl (fun hc => ?_) (fun hc => ?_)) | (refine xc_cond rfl (fun hc => ?_) (fun hc => ?_)))
        first | refine rt (hq := ?_) | refine rt' (hq := ?_)
        exact ⟨.inr ⟨⟨i + 1, hlt, by rw [hps]; exact hin1⟩, rfl⟩, hs.only0 rfl⟩
    · have e : i = xs.length := by omega
      rw [e] at hf hs
      exact cutB_exit () (by (repeat (first | exact agree_nil | (apply agree_cons; exact rfl)))) ⟨hf, hs⟩
  · rintro _ env w ⟨hf, hs⟩
    repeat' (first | refine vs (k := ?_) | refine ps (k := ?_) | (refine st hs (k := ?_); intro w hs) | (refine stA hs (k := ?_); intro w hs) | (refine al hs (k := ?_); intro b w hz hs) | (refine bx hs (k := ?_); intro b w hz hs) | (refine bs hs (k := ?_); intro b w hz hs) | refine XS.nil ?_ | refine then_of ?_ | refine xc_seq ?_ | (refine xc_region ?_ ?_; exact rfl) | refine xc_block ?_ | refine block_normal ?_ | refine xc_ret ?_ | refine then_ret ?_ | refine block_ret ?_ | refine xc_skip ?_ | refine xc_exit ?_ | refine then_exit ?_ | refine loopS_exit ?_ | refine loopS_ret ?_ | refine cutB_ret ?_ | refine cutN_ret ?_ | refine cutN_exit ?_ | refine block_exit ?_ | (refine block_other ?_ ?_; exact rfl) | (refine xc_true ?_ ?_; exact rfl) | (refine xc_false ?_ ?_; exact rfl) | ((with_reducible apply xs_guard); exact rfl; exact rfl; intro c hc; fail_if_success (have : true = c := hc); cases c) | (refine xc_if rfl (fun hc => ?_) (fun hc => ?_)) | (refine xc_cond rfl (fun hc => ?_) (fun hc => ?_)))
    first | refine rt (hq := ?_) | refine rt' (hq := ?_)
    exact ⟨.inl ⟨hf, rfl⟩, hs.only0 rfl⟩
end Go.Proofs.YtjooegonmdmajaaX
