/- rbtree: Depth, All, Len, New; slices.Equal. -/
import Derived.Test.YtjooegonmdmajaaRb6
import Derived.Test.YtjooegonmdmajaaSl
set_option linter.unusedVariables false
set_option linter.unusedSimpArgs false
set_option maxRecDepth 100000
namespace Go.Proofs.YtjooegonmdmajaaX
open Go Go.RowKit
attribute [local irreducible] XS XC XA thenE blockE retE loopE loopS cutB cutN doneE SE
theorem RB.depth_le {α : Type} : ∀ t : RB α, t.depth ≤ t.list.length
  | .nil => Nat.le_refl _
  | .node l x r c => by
    have := RB.depth_le l
    have := RB.depth_le r
    simp only [RB.depth, RB.list, List.length_append, List.length_cons]
    omega
theorem depth_ret : ∀ (t : RB Int) (p : Option Addr) (w0 : World) (h : ShapeAt w0 t p) (hlen : t.list.length ≤ 1000000), Ret Try.prog 81 #[.pointer p] w0 fun v w' => v = .int .i64 (t.depth : Nat) ∧ Only [] w0 w'
  | .nil, p, w0, h, hlen => by
    have hp : p = none := h
    subst hp
    have hs := St.nil w0
    refine ret_of_xc Try.func81 (by kernel_rfl) rfl Try.ntmps81 rfl rfl rfl ?_
    repeat' (first | refine vs (k := ?_) | refine ps (k := ?_) | (refine st hs (k := ?_); intro w hs) | (refine stA hs (k := ?_); intro w hs) | (refine al hs (k := ?_); intro b w hz hs) | (refine bx hs (k := ?_); intro b w hz hs) | (refine bs hs (k := ?_); intro b w hz hs) | refine XS.nil ?_ | refine then_of ?_ | refine xc_seq ?_ | (refine xc_region ?_ ?_; exact rfl) | refine xc_block ?_ | refine block_normal ?_ | refine xc_ret ?_ | refine then_ret ?_ | refine block_ret ?_ | refine xc_skip ?_ | refine xc_exit ?_ | refine then_exit ?_ | refine loopS_exit ?_ | refine loopS_ret ?_ | refine cutB_ret ?_ | refine cutN_ret ?_ | refine cutN_exit ?_ | refine block_exit ?_ | (refine block_other ?_ ?_; exact rfl) | (refine xc_true ?_ ?_; exact rfl) | (refine xc_false ?_ ?_; exact rfl) | ((with_reducible apply xs_guard); exact rfl; exact rfl; intro c hc; (fail_if_success (have : true = c := hc)); (fail_if_success (have : false = c := hc)); cases c) | (refine xc_if rfl (fun hc => ?_) (fun hc => ?_)) | (refine xc_cond rfl (fun hc => ?_) (fun hc => ?_)))
    first | refine rt (hq := ?_) | refine rt' (hq := ?_)
    exact ⟨rfl, hs.only0 rfl⟩
  | .node l x r c, p, w0, ⟨b, av, pl, pr, hp, hb, hl, hr⟩, hlen => by
    subst hp
    simp only [RB.list, List.length_append, List.length_cons] at hlen
    have hs := (St.nil w0).track hb (by simp)
    refine ret_of_xc Try.func81 (by kernel_rfl) rfl Try.ntmps81 rfl rfl rfl ?_
    repeat' (first | refine vs (k := ?_) | refine ps (k := ?_) | (refine st hs (k := ?_); intro w hs) | (refine stA hs (k := ?_); intro w hs) | (refine al hs (k := ?_); intro b w hz hs) | (refine bx hs (k := ?_); intro b w hz hs) | (refine bs hs (k := ?_); intro b w hz hs) | refine XS.nil ?_ | refine then_of ?_ | refine xc_seq ?_ | (refine xc_region ?_ ?_; exact rfl) | refine xc_block ?_ | refine block_normal ?_ | refine xc_ret ?_ | refine then_ret ?_ | refine block_ret ?_ | refine xc_skip ?_ | refine xc_exit ?_ | refine then_exit ?_ | refine loopS_exit ?_ | refine loopS_ret ?_ | refine cutB_ret ?_ | refine cutN_ret ?_ | refine cutN_exit ?_ | refine block_exit ?_ | (refine block_other ?_ ?_; exact rfl) | (refine xc_true ?_ ?_; exact rfl) | (refine xc_false ?_ ?_; exact rfl) | ((with_reducible apply xs_guard); exact rfl; exact rfl; intro c hc; (fail_if_success (have : true = c := hc)); (fail_if_success (have : false = c := hc)); cases c) | (refine xc_if rfl (fun hc => ?_) (fun hc => ?_)) | (refine xc_cond rfl (fun hc => ?_) (fun hc => ?_)))
    refine dr [] hs (k := ?_); intro hX w hs
    refine tk 0 hX (k := ?_)
    refine tk 1 hX (k := ?_)
    refine tk 2 hX (k := ?_)
    refine tk 3 hX (k := ?_)
    refine tk 5 hX (k := ?_)
    refine tk 6 hX (k := ?_)
    refine tk 7 hX (k := ?_)
    refine tk 8 hX (k := ?_)
    refine dt 4 hX (k := ?_)
    (with_reducible apply xs_call); exact rfl; exact rfl; exact depth_ret l pl _ (hl.keep (hs.onlyF [] (by simp [hb]) (by simp [D0])) (fun b h => by cases h)) (by omega)
    rintro v w' ⟨rfl, ho⟩; replace hs := hs.call0 ho
    repeat' (first | refine vs (k := ?_) | refine ps (k := ?_) | (refine st hs (k := ?_); intro w hs) | (refine stA hs (k := ?_); intro w hs) | (refine al hs (k := ?_); intro b w hz hs) | (refine bx hs (k := ?_); intro b w hz hs) | (refine bs hs (k := ?_); intro b w hz hs) | refine XS.nil ?_ | refine then_of ?_ | refine xc_seq ?_ | (refine xc_region ?_ ?_; exact rfl) | refine xc_block ?_ | refine block_normal ?_ | refine xc_ret ?_ | refine then_ret ?_ | refine block_ret ?_ | refine xc_skip ?_ | refine xc_exit ?_ | refine then_exit ?_ | refine loopS_exit ?_ | refine loopS_ret ?_ | refine cutB_ret ?_ | refine cutN_ret ?_ | refine cutN_exit ?_ | refine block_exit ?_ | (refine block_other ?_ ?_; exact rfl) | (refine xc_true ?_ ?_; exact rfl) | (refine xc_false ?_ ?_; exact rfl) | ((with_reducible apply xs_guard); exact rfl; exact rfl; intro c hc; (fail_if_success (have : true = c := hc)); (fail_if_success (have : false = c := hc)); cases c) | (refine xc_if rfl (fun hc => ?_) (fun hc => ?_)) | (refine xc_cond rfl (fun hc => ?_) (fun hc => ?_)))
    refine dn (k := ?_)
    refine dt 9 hX (k := ?_)
    (with_reducible apply xs_call); exact rfl; exact rfl; exact depth_ret r pr _ (hr.keep (hs.onlyF [] (by simp [hb]) (by simp [D0])) (fun b h => by cases h)) (by omega)
    rintro v w' ⟨rfl, ho⟩; replace hs := hs.call0 ho
    repeat' (first | refine vs (k := ?_) | refine ps (k := ?_) | (refine st hs (k := ?_); intro w hs) | (refine stA hs (k := ?_); intro w hs) | (refine al hs (k := ?_); intro b w hz hs) | (refine bx hs (k := ?_); intro b w hz hs) | (refine bs hs (k := ?_); intro b w hz hs) | refine XS.nil ?_ | refine then_of ?_ | refine xc_seq ?_ | (refine xc_region ?_ ?_; exact rfl) | refine xc_block ?_ | refine block_normal ?_ | refine xc_ret ?_ | refine then_ret ?_ | refine block_ret ?_ | refine xc_skip ?_ | refine xc_exit ?_ | refine then_exit ?_ | refine loopS_exit ?_ | refine loopS_ret ?_ | refine cutB_ret ?_ | refine cutN_ret ?_ | refine cutN_exit ?_ | refine block_exit ?_ | (refine block_other ?_ ?_; exact rfl) | (refine xc_true ?_ ?_; exact rfl) | (refine xc_false ?_ ?_; exact rfl) | ((with_reducible apply xs_guard); exact rfl; exact rfl; intro c hc; (fail_if_success (have : true = c := hc)); (fail_if_success (have : false = c := hc)); cases c) | (refine xc_if rfl (fun hc => ?_) (fun hc => ?_)) | (refine xc_cond rfl (fun hc => ?_) (fun hc => ?_)))
    refine dn (k := ?_)
    refine tk 10 hX (k := ?_)
    refine tk 11 hX (k := ?_)
    refine tk 12 hX (k := ?_)
    refine en (k := ?_)
    repeat' (first | refine vs (k := ?_) | refine ps (k := ?_) | (refine st hs (k := ?_); intro w hs) | (refine stA hs (k := ?_); intro w hs) | (refine al hs (k := ?_); intro b w hz hs) | (refine bx hs (k := ?_); intro b w hz hs) | (refine bs hs (k := ?_); intro b w hz hs) | refine XS.nil ?_ | refine then_of ?_ | refine xc_seq ?_ | (refine xc_region ?_ ?_; exact rfl) | refine xc_block ?_ | refine block_normal ?_ | refine xc_ret ?_ | refine then_ret ?_ | refine block_ret ?_ | refine xc_skip ?_ | refine xc_exit ?_ | refine then_exit ?_ | refine loopS_exit ?_ | refine loopS_ret ?_ | refine cutB_ret ?_ | refine cutN_ret ?_ | refine cutN_exit ?_ | refine block_exit ?_ | (refine block_other ?_ ?_; exact rfl) | (refine xc_true ?_ ?_; exact rfl) | (refine xc_false ?_ ?_; exact rfl) | ((with_reducible apply xs_guard); exact rfl; exact rfl; intro c hc; (fail_if_success (have : true = c := hc)); (fail_if_success (have : false = c := hc)); cases c) | (refine xc_if rfl (fun hc => ?_) (fun hc => ?_)) | (refine xc_cond rfl (fun hc => ?_) (fun hc => ?_)))
    first | refine rt (hq := ?_) | refine rt' (hq := ?_)
    refine ⟨?_, hs.onlyF [] (by simp [hb]) (by simp [D0])⟩
    have h1 := RB.depth_le l
    have h2 := RB.depth_le r
    refine congrArg (Value.int .i64) ?_
    have e : (if (r.depth : Int) > (l.depth : Int) then (r.depth : Int) else (l.depth : Int)) = ((max l.depth r.depth : Nat) : Int) := by split <;> omega
    show IntKind.i64.wrap (1 + (if (r.depth : Int) > (l.depth : Int) then (r.depth : Int) else (l.depth : Int))) = ((1 + max l.depth r.depth : Nat) : Int)
    rw [e]
    rw [i64_small (by omega) (by omega)]
    omega
theorem rbDepth_ret (tb : Nat) (t : RB Int) (F : List Nat) (w0 : World) (h : Obj6 w0 tb t F) (hlen : t.list.length ≤ 1000000) :
    Ret Try.prog 35 #[.pointer (some ⟨tb, 0, none⟩)] w0 fun v w' => v = .int .i64 (t.depth : Nat) ∧ Only [] w0 w' := by
  obtain ⟨p, fp, rfl, hT, ht, hnd⟩ := h
  have hs := (St.nil w0).track hT (by simp)
  refine ret_of_xc Try.func35 (by kernel_rfl) rfl Try.ntmps35 rfl rfl rfl ?_
  repeat' (first | refine vs (k := ?_) | refine ps (k := ?_) | (refine st hs (k := ?_); intro w hs) | (refine stA hs (k := ?_); intro w hs) | (refine al hs (k := ?_); intro b w hz hs) | (refine bx hs (k := ?_); intro b w hz hs) | (refine bs hs (k := ?_); intro b w hz hs) | refine XS.nil ?_ | refine then_of ?_ | refine xc_seq ?_ | (refine xc_region ?_ ?_; exact rfl) | refine xc_block ?_ | refine block_normal ?_ | refine xc_ret ?_ | refine then_ret ?_ | refine block_ret ?_ | refine xc_skip ?_ | refine xc_exit ?_ | refine then_exit ?_ | refine loopS_exit ?_ | refine loopS_ret ?_ | refine cutB_ret ?_ | refine cutN_ret ?_ | refine cutN_exit ?_ | refine block_exit ?_ | (refine block_other ?_ ?_; exact rfl) | (refine xc_true ?_ ?_; exact rfl) | (refine xc_false ?_ ?_; exact rfl) | ((with_reducible apply xs_guard); exact rfl; exact rfl; intro c hc; (fail_if_success (have : true = c := hc)); (fail_if_success (have : false = c := hc)); cases c) | (refine xc_if rfl (fun hc => ?_) (fun hc => ?_)) | (refine xc_cond rfl (fun hc => ?_) (fun hc => ?_)))
  (with_reducible apply xs_call); exact rfl; exact rfl; exact depth_ret t p _ (ht.shape.keep (hs.onlyF [] (by simp [hT]) (by simp [D0])) (fun b h => by cases h)) hlen
  rintro v w' ⟨rfl, ho⟩; replace hs := hs.call0 ho; repeat' (first | refine vs (k := ?_) | refine ps (k := ?_) | (refine st hs (k := ?_); intro w hs) | (refine stA hs (k := ?_); intro w hs) | (refine al hs (k := ?_); intro b w hz hs) | (refine bx hs (k := ?_); intro b w hz hs) | (refine bs hs (k := ?_); intro b w hz hs) | refine XS.nil ?_ | refine then_of ?_ | refine xc_seq ?_ | (refine xc_region ?_ ?_; exact rfl) | refine xc_block ?_ | refine block_normal ?_ | refine xc_ret ?_ | refine then_ret ?_ | refine block_ret ?_ | refine xc_skip ?_ | refine xc_exit ?_ | refine then_exit ?_ | refine loopS_exit ?_ | refine loopS_ret ?_ | refine cutB_ret ?_ | refine cutN_ret ?_ | refine cutN_exit ?_ | refine block_exit ?_ | (refine block_other ?_ ?_; exact rfl) | (refine xc_true ?_ ?_; exact rfl) | (refine xc_false ?_ ?_; exact rfl) | ((with_reducible apply xs_guard); exact rfl; exact rfl; intro c hc; (fail_if_success (have : true = c := hc)); (fail_if_success (have : false = c := hc)); cases c) | (refine xc_if rfl (fun hc => ?_) (fun hc => ?_)) | (refine xc_cond rfl (fun hc => ?_) (fun hc => ?_)))
  first | refine rt (hq := ?_) | refine rt' (hq := ?_)
  exact ⟨rfl, hs.onlyF [] (by simp [hT]) (by simp [D0])⟩
theorem rbLen_ret (tb : Nat) (t : RB Int) (F : List Nat) (w0 : World) (h : Obj6 w0 tb t F) :
    Ret Try.prog 23 #[.pointer (some ⟨tb, 0, none⟩)] w0 fun v w' => v = .int .i64 (t.list.length : Nat) ∧ Only [] w0 w' := by
  obtain ⟨p, fp, rfl, hT, ht, hnd⟩ := h
  have hs := (St.nil w0).track hT (by simp)
  refine ret_of_xc Try.func23 (by kernel_rfl) rfl Try.ntmps23 rfl rfl rfl ?_
  repeat' (first | refine vs (k := ?_) | refine ps (k := ?_) | (refine st hs (k := ?_); intro w hs) | (refine stA hs (k := ?_); intro w hs) | (refine al hs (k := ?_); intro b w hz hs) | (refine bx hs (k := ?_); intro b w hz hs) | (refine bs hs (k := ?_); intro b w hz hs) | refine XS.nil ?_ | refine then_of ?_ | refine xc_seq ?_ | (refine xc_region ?_ ?_; exact rfl) | refine xc_block ?_ | refine block_normal ?_ | refine xc_ret ?_ | refine then_ret ?_ | refine block_ret ?_ | refine xc_skip ?_ | refine xc_exit ?_ | refine then_exit ?_ | refine loopS_exit ?_ | refine loopS_ret ?_ | refine cutB_ret ?_ | refine cutN_ret ?_ | refine cutN_exit ?_ | refine block_exit ?_ | (refine block_other ?_ ?_; exact rfl) | (refine xc_true ?_ ?_; exact rfl) | (refine xc_false ?_ ?_; exact rfl) | ((with_reducible apply xs_guard); exact rfl; exact rfl; intro c hc; (fail_if_success (have : true = c := hc)); (fail_if_success (have : false = c := hc)); cases c) | (refine xc_if rfl (fun hc => ?_) (fun hc => ?_)) | (refine xc_cond rfl (fun hc => ?_) (fun hc => ?_)))
  first | refine rt (hq := ?_) | refine rt' (hq := ?_)
  exact ⟨rfl, hs.onlyF [] (by simp [hT]) (by simp [D0])⟩
theorem rbNewOf_ret (w0 : World) : Ret Try.prog 59 #[.func (.func 60) #[] #[], .func (.func 61) #[] #[], .func (.func 62) #[] #[]] w0 fun v w' => ∃ tb F, v = .pointer (some ⟨tb, 0, none⟩) ∧ Obj6 w' tb .nil F ∧ (∀ k ∈ F, w0.heap.size ≤ k) ∧ Only [] w0 w' := by
  have hs := St.nil w0
  refine ret_of_xc Try.func59 (by kernel_rfl) rfl Try.ntmps59 rfl rfl rfl ?_
  refine xc_seq ?_
  refine xc_region ?_ ?_; exact rfl
  refine vs (k := ?_)
  refine XS.nil ?_
  refine then_of ?_
  refine xc_seq ?_
  refine xc_region ?_ ?_; exact rfl
  refine vs (k := ?_)
  refine vs (k := ?_)
  refine vs (k := ?_)
  refine vs (k := ?_)
  refine bx hs (k := ?_); intro b w hz hs
  repeat' (first | refine vs (k := ?_) | refine ps (k := ?_) | (refine st hs (k := ?_); intro w hs) | (refine stA hs (k := ?_); intro w hs) | (refine al hs (k := ?_); intro b w hz hs) | (refine bx hs (k := ?_); intro b w hz hs) | (refine bs hs (k := ?_); intro b w hz hs) | refine XS.nil ?_ | refine then_of ?_ | refine xc_seq ?_ | (refine xc_region ?_ ?_; exact rfl) | refine xc_block ?_ | refine block_normal ?_ | refine xc_ret ?_ | refine then_ret ?_ | refine block_ret ?_ | refine xc_skip ?_ | refine xc_exit ?_ | refine then_exit ?_ | refine loopS_exit ?_ | refine loopS_ret ?_ | refine cutB_ret ?_ | refine cutN_ret ?_ | refine cutN_exit ?_ | refine block_exit ?_ | (refine block_other ?_ ?_; exact rfl) | (refine xc_true ?_ ?_; exact rfl) | (refine xc_false ?_ ?_; exact rfl) | ((with_reducible apply xs_guard); exact rfl; exact rfl; intro c hc; (fail_if_success (have : true = c := hc)); (fail_if_success (have : false = c := hc)); cases c) | (refine xc_if rfl (fun hc => ?_) (fun hc => ?_)) | (refine xc_cond rfl (fun hc => ?_) (fun hc => ?_)))
  first | refine rt (hq := ?_) | refine rt' (hq := ?_)
  have hnew := hs.new (b, true) (by simp) rfl
  exact ⟨b, [b], rfl, ⟨none, [], rfl, hs.get At.head, ⟨rfl, rfl⟩, List.nodup_nil⟩, fun k hk => by obtain rfl := List.mem_singleton.1 hk; exact hnew, hs.only0 rfl⟩
theorem rbNew_ret (w0 : World) : Ret Try.prog 14 #[] w0 fun v w' => ∃ tb F, v = .pointer (some ⟨tb, 0, none⟩) ∧ Obj6 w' tb .nil F ∧ (∀ k ∈ F, w0.heap.size ≤ k) ∧ Only [] w0 w' := by
  have hs := St.nil w0
  refine ret_of_xc Try.func14 (by kernel_rfl) rfl Try.ntmps14 rfl rfl rfl ?_
  repeat' (first | refine vs (k := ?_) | refine ps (k := ?_) | (refine st hs (k := ?_); intro w hs) | (refine stA hs (k := ?_); intro w hs) | (refine al hs (k := ?_); intro b w hz hs) | (refine bx hs (k := ?_); intro b w hz hs) | (refine bs hs (k := ?_); intro b w hz hs) | refine XS.nil ?_ | refine then_of ?_ | refine xc_seq ?_ | (refine xc_region ?_ ?_; exact rfl) | refine xc_block ?_ | refine block_normal ?_ | refine xc_ret ?_ | refine then_ret ?_ | refine block_ret ?_ | refine xc_skip ?_ | refine xc_exit ?_ | refine then_exit ?_ | refine loopS_exit ?_ | refine loopS_ret ?_ | refine cutB_ret ?_ | refine cutN_ret ?_ | refine cutN_exit ?_ | refine block_exit ?_ | (refine block_other ?_ ?_; exact rfl) | (refine xc_true ?_ ?_; exact rfl) | (refine xc_false ?_ ?_; exact rfl) | ((with_reducible apply xs_guard); exact rfl; exact rfl; intro c hc; (fail_if_success (have : true = c := hc)); (fail_if_success (have : false = c := hc)); cases c) | (refine xc_if rfl (fun hc => ?_) (fun hc => ?_)) | (refine xc_cond rfl (fun hc => ?_) (fun hc => ?_)))
  (with_reducible apply xs_call); exact rfl; exact rfl; exact rbNewOf_ret _
  rintro v w' ⟨tb, F, rfl, h1, h2, h3⟩
  replace hs := hs.call0 h3
  repeat' (first | refine vs (k := ?_) | refine ps (k := ?_) | (refine st hs (k := ?_); intro w hs) | (refine stA hs (k := ?_); intro w hs) | (refine al hs (k := ?_); intro b w hz hs) | (refine bx hs (k := ?_); intro b w hz hs) | (refine bs hs (k := ?_); intro b w hz hs) | refine XS.nil ?_ | refine then_of ?_ | refine xc_seq ?_ | (refine xc_region ?_ ?_; exact rfl) | refine xc_block ?_ | refine block_normal ?_ | refine xc_ret ?_ | refine then_ret ?_ | refine block_ret ?_ | refine xc_skip ?_ | refine xc_exit ?_ | refine then_exit ?_ | refine loopS_exit ?_ | refine loopS_ret ?_ | refine cutB_ret ?_ | refine cutN_ret ?_ | refine cutN_exit ?_ | refine block_exit ?_ | (refine block_other ?_ ?_; exact rfl) | (refine xc_true ?_ ?_; exact rfl) | (refine xc_false ?_ ?_; exact rfl) | ((with_reducible apply xs_guard); exact rfl; exact rfl; intro c hc; (fail_if_success (have : true = c := hc)); (fail_if_success (have : false = c := hc)); cases c) | (refine xc_if rfl (fun hc => ?_) (fun hc => ?_)) | (refine xc_cond rfl (fun hc => ?_) (fun hc => ?_)))
  first | refine rt (hq := ?_) | refine rt' (hq := ?_)
  exact ⟨tb, F, rfl, h1, h2, hs.only0 rfl⟩
end Go.Proofs.YtjooegonmdmajaaX
