/- rbtree: the law's own functions of a tree; isRed. -/
import Derived.Test.YtjooegonmdmajaaRbH
set_option linter.unusedVariables false
set_option linter.unusedSimpArgs false
set_option maxRecDepth 100000
namespace Go.Proofs.YtjooegonmdmajaaX
open Go Go.RowKit
attribute [local irreducible] XS XC XA thenE blockE retE loopE loopS cutB cutN doneE SE
theorem less_ret (a b : Int) (w0 : World) : Ret Try.prog 60 #[.int .i64 a, .int .i64 b] w0 fun v w' => v = .bool (decide (a < b)) ∧ Only [] w0 w' := by
  have hs := St.nil w0
  refine ret_of_xc Try.func60 (by kernel_rfl) rfl Try.ntmps60 rfl rfl rfl ?_
  repeat' (first | refine vs (k := ?_) | refine ps (k := ?_) | (refine st hs (k := ?_); intro w hs) | (refine stA hs (k := ?_); intro w hs) | (refine al hs (k := ?_); intro b w hz hs) | (refine bx hs (k := ?_); intro b w hz hs) | (refine bs hs (k := ?_); intro b w hz hs) | refine XS.nil ?_ | refine then_of ?_ | refine xc_seq ?_ | (refine xc_region ?_ ?_; exact rfl) | refine xc_block ?_ | refine block_normal ?_ | refine xc_ret ?_ | refine then_ret ?_ | refine block_ret ?_ | refine xc_skip ?_ | refine xc_exit ?_ | refine then_exit ?_ | refine loopS_exit ?_ | refine loopS_ret ?_ | refine cutB_ret ?_ | refine cutN_ret ?_ | refine cutN_exit ?_ | refine block_exit ?_ | (refine block_other ?_ ?_; exact rfl) | (refine xc_true ?_ ?_; exact rfl) | (refine xc_false ?_ ?_; exact rfl) | ((with_reducible apply xs_guard); exact rfl; exact rfl; intro c hc; fail_if_success (have : true = c := hc); cases c) | (refine xc_if rfl (fun hc => ?_) (fun hc => ?_)) | (refine xc_cond rfl (fun hc => ?_) (fun hc => ?_)))
  first | refine rt (hq := ?_) | refine rt' (hq := ?_)
  exact ⟨rfl, hs.only0 rfl⟩
theorem one_ret (a : Int) (w0 : World) : Ret Try.prog 61 #[.int .i64 a] w0 fun v w' => DAt w' v [a] ∧ Only [] w0 w' := by
  have hs := St.nil w0
  refine ret_of_xc Try.func61 (by kernel_rfl) rfl Try.ntmps61 rfl rfl rfl ?_
  repeat' (first | refine vs (k := ?_) | refine ps (k := ?_) | (refine st hs (k := ?_); intro w hs) | (refine stA hs (k := ?_); intro w hs) | (refine al hs (k := ?_); intro b w hz hs) | (refine bx hs (k := ?_); intro b w hz hs) | (refine bs hs (k := ?_); intro b w hz hs) | refine XS.nil ?_ | refine then_of ?_ | refine xc_seq ?_ | (refine xc_region ?_ ?_; exact rfl) | refine xc_block ?_ | refine block_normal ?_ | refine xc_ret ?_ | refine then_ret ?_ | refine block_ret ?_ | refine xc_skip ?_ | refine xc_exit ?_ | refine then_exit ?_ | refine loopS_exit ?_ | refine loopS_ret ?_ | refine cutB_ret ?_ | refine cutN_ret ?_ | refine cutN_exit ?_ | refine block_exit ?_ | (refine block_other ?_ ?_; exact rfl) | (refine xc_true ?_ ?_; exact rfl) | (refine xc_false ?_ ?_; exact rfl) | ((with_reducible apply xs_guard); exact rfl; exact rfl; intro c hc; fail_if_success (have : true = c := hc); cases c) | (refine xc_if rfl (fun hc => ?_) (fun hc => ?_)) | (refine xc_cond rfl (fun hc => ?_) (fun hc => ?_)))
  first | refine rt (hq := ?_) | refine rt' (hq := ?_)
  refine ⟨⟨_, _, rfl, fun _ => ⟨_, 0, [.int .i64 a], (0, 0), rfl, Nat.le_refl _, hs.get At.head, fun i d h => ?_⟩⟩, hs.only0 rfl⟩
  cases i with
  | zero => simpa using h
  | succ i => simp at h
theorem ints_one (xs : List Int) : (xs.map (Value.int .i64)).all Value.oneCell' = true := by simp [Value.oneCell']
/-- The numbers of a slice, cell by cell. -/
theorem DAt.cells {w : World} {ad : Option Addr} {cap n : Nat} {xs : List Int} (h : DAt w (.slice ad n cap) xs) (hn : xs ≠ []) : ∃ b off, ad = some ⟨b, off, none⟩ ∧ n = xs.length ∧ n ≤ cap ∧ ∀ (j : Nat) u, (ints xs)[j]? = some u → w.cell? ((⟨b, off, none⟩ : Addr).add j) = some u := by
  obtain ⟨ad', cap', e, h⟩ := h
  cases e
  obtain ⟨b, off, cs, fz, rfl, h2, h3, h4⟩ := h hn
  refine ⟨b, off, rfl, rfl, h2, fun j u hj => ?_⟩
  rw [add_addr]
  unfold ints at hj
  rw [List.getElem?_map] at hj
  obtain ⟨d, hd, rfl⟩ := Option.map_eq_some_iff.1 hj
  simp [World.cell?, h3, h4 j d hd]
theorem both_ret (va vb : Value) (A B : List Int) (hA0 : A ≠ []) (hB0 : B ≠ []) (hlen : A.length + B.length ≤ 1000000) (w0 : World) (hA : DAt w0 va A) (hB : DAt w0 vb B) :
    Ret Try.prog 62 #[va, vb] w0 fun v w' => DAt w' v (A ++ B) ∧ Only [] w0 w' := by
  obtain ⟨aa, ca, rfl, _⟩ := id hA
  obtain ⟨ab, cb, rfl, _⟩ := id hB
  have hs := St.nil w0
  refine ret_of_xc Try.func62 (by kernel_rfl) rfl Try.ntmps62 rfl rfl rfl ?_
  refine xc_seq ?_
  refine xc_region ?_ ?_; exact rfl
  refine vs (k := ?_)
  refine XS.nil ?_
  refine then_of ?_
  refine xc_seq ?_
  refine xc_region ?_ ?_; exact rfl
  refine xs_buildSlice0 tabOk rfl rfl hs ?_
  intro v1 w1 hO hv1
  refine vs (k := ?_)
  have ho1 := hO.st.only0 rfl
  obtain ⟨b, off, rfl, _, _, hc⟩ := (hA.only ho1).cells hA0
  refine xs_appendS tabOk rfl rfl rfl rfl rfl rfl (by simp [ints]) (List.length_pos_iff.2 hA0) hc (List.all_eq_true.1 (ints_one A)) hO (by omega) (by omega) ?_
  intro v2 w2 hO hv2
  refine vs (k := ?_)
  have ho2 := hO.st.only0 rfl
  obtain ⟨b', off', rfl, _, _, hc'⟩ := (hB.only ho2).cells hB0
  refine xs_appendS tabOk rfl rfl rfl rfl rfl rfl (by simp [ints]) (List.length_pos_iff.2 hB0) hc' (List.all_eq_true.1 (ints_one B)) hO (by omega) (by omega) ?_
  intro v3 w3 hO hv3
  have hs := hO.st
  repeat' (first | refine vs (k := ?_) | refine ps (k := ?_) | (refine st hs (k := ?_); intro w hs) | (refine stA hs (k := ?_); intro w hs) | (refine al hs (k := ?_); intro b w hz hs) | (refine bx hs (k := ?_); intro b w hz hs) | (refine bs hs (k := ?_); intro b w hz hs) | refine XS.nil ?_ | refine then_of ?_ | refine xc_seq ?_ | (refine xc_region ?_ ?_; exact rfl) | refine xc_block ?_ | refine block_normal ?_ | refine xc_ret ?_ | refine then_ret ?_ | refine block_ret ?_ | refine xc_skip ?_ | refine xc_exit ?_ | refine then_exit ?_ | refine loopS_exit ?_ | refine loopS_ret ?_ | refine cutB_ret ?_ | refine cutN_ret ?_ | refine cutN_exit ?_ | refine block_exit ?_ | (refine block_other ?_ ?_; exact rfl) | (refine xc_true ?_ ?_; exact rfl) | (refine xc_false ?_ ?_; exact rfl) | ((with_reducible apply xs_guard); exact rfl; exact rfl; intro c hc; fail_if_success (have : true = c := hc); cases c) | (refine xc_if rfl (fun hc => ?_) (fun hc => ?_)) | (refine xc_cond rfl (fun hc => ?_) (fun hc => ?_)))
  first | refine rt (hq := ?_) | refine rt' (hq := ?_)
  refine ⟨?_, hs.only0 rfl⟩
  have e : ints A ++ ints B = ints (A ++ B) := by simp [ints]
  simp only [List.nil_append] at hO
  rw [e] at hO
  exact own_dat hO (by simp)
theorem isRed_ret (t : RB Int) (p : Option Addr) (fp : List Nat) (w0 : World) (h : TreeAt w0 t p fp) : Ret Try.prog 79 #[.pointer p] w0 fun v w' => v = .bool t.red ∧ Only [] w0 w' := by
  have hs := St.nil w0
  cases t with
  | nil =>
    obtain ⟨rfl, rfl⟩ := h
    refine ret_of_xc Try.func79 (by kernel_rfl) rfl Try.ntmps79 rfl rfl rfl ?_
    repeat' (first | refine vs (k := ?_) | refine ps (k := ?_) | (refine st hs (k := ?_); intro w hs) | (refine stA hs (k := ?_); intro w hs) | (refine al hs (k := ?_); intro b w hz hs) | (refine bx hs (k := ?_); intro b w hz hs) | (refine bs hs (k := ?_); intro b w hz hs) | refine XS.nil ?_ | refine then_of ?_ | refine xc_seq ?_ | (refine xc_region ?_ ?_; exact rfl) | refine xc_block ?_ | refine block_normal ?_ | refine xc_ret ?_ | refine then_ret ?_ | refine block_ret ?_ | refine xc_skip ?_ | refine xc_exit ?_ | refine then_exit ?_ | refine loopS_exit ?_ | refine loopS_ret ?_ | refine cutB_ret ?_ | refine cutN_ret ?_ | refine cutN_exit ?_ | refine block_exit ?_ | (refine block_other ?_ ?_; exact rfl) | (refine xc_true ?_ ?_; exact rfl) | (refine xc_false ?_ ?_; exact rfl) | ((with_reducible apply xs_guard); exact rfl; exact rfl; intro c hc; fail_if_success (have : true = c := hc); cases c) | (refine xc_if rfl (fun hc => ?_) (fun hc => ?_)) | (refine xc_cond rfl (fun hc => ?_) (fun hc => ?_)))
    first | refine rt (hq := ?_) | refine rt' (hq := ?_)
    exact ⟨rfl, hs.only0 rfl⟩
  | node l x r c =>
    obtain ⟨b, av, pl, pr, fl, fr, rfl, h2, h3, h4, h5, h6⟩ := h
    replace hs := hs.track h3 (by simp)
    refine ret_of_xc Try.func79 (by kernel_rfl) rfl Try.ntmps79 rfl rfl rfl ?_
    repeat' (first | refine vs (k := ?_) | refine ps (k := ?_) | (refine st hs (k := ?_); intro w hs) | (refine stA hs (k := ?_); intro w hs) | (refine al hs (k := ?_); intro b w hz hs) | (refine bx hs (k := ?_); intro b w hz hs) | (refine bs hs (k := ?_); intro b w hz hs) | refine XS.nil ?_ | refine then_of ?_ | refine xc_seq ?_ | (refine xc_region ?_ ?_; exact rfl) | refine xc_block ?_ | refine block_normal ?_ | refine xc_ret ?_ | refine then_ret ?_ | refine block_ret ?_ | refine xc_skip ?_ | refine xc_exit ?_ | refine then_exit ?_ | refine loopS_exit ?_ | refine loopS_ret ?_ | refine cutB_ret ?_ | refine cutN_ret ?_ | refine cutN_exit ?_ | refine block_exit ?_ | (refine block_other ?_ ?_; exact rfl) | (refine xc_true ?_ ?_; exact rfl) | (refine xc_false ?_ ?_; exact rfl) | ((with_reducible apply xs_guard); exact rfl; exact rfl; intro c hc; fail_if_success (have : true = c := hc); cases c) | (refine xc_if rfl (fun hc => ?_) (fun hc => ?_)) | (refine xc_cond rfl (fun hc => ?_) (fun hc => ?_)))
    first | refine rt (hq := ?_) | refine rt' (hq := ?_)
    exact ⟨rfl, hs.onlyF [] (by simp [h3]) (by simp [D0])⟩
end Go.Proofs.YtjooegonmdmajaaX
