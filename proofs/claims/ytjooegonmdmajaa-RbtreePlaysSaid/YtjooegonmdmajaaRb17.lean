/- rbtree: Clone, Min. -/
import Derived.Test.YtjooegonmdmajaaRb16
set_option linter.unusedVariables false
set_option linter.unusedSimpArgs false
set_option maxRecDepth 100000
namespace Go.Proofs.YtjooegonmdmajaaX
open Go Go.RowKit
attribute [local irreducible] XS XC XA thenE blockE retE loopE loopS cutB cutN doneE SE
set_option maxHeartbeats 2000000 in
theorem copied_ret : ∀ (t : RB Int) (p : Option Addr) (fp : List Nat) (w0 : World) (h : TreeAt w0 t p fp), Ret Try.prog 88 #[.pointer p] w0 fun v w' => (∃ p' fp', v = .pointer p' ∧ TreeAt w' t p' fp' ∧ fp'.Nodup ∧ ∀ k ∈ fp', w0.heap.size ≤ k) ∧ Only [] w0 w'
  | .nil, p, fp, w0, ⟨hp, hf⟩ => by
    subst hp
    have hs := St.nil w0
    refine ret_of_xc Try.func88 (by kernel_rfl) rfl Try.ntmps88 rfl rfl rfl ?_
    repeat' (first | refine vs (k := ?_) | refine ps (k := ?_) | (refine st hs (k := ?_); intro w hs) | (refine stA hs (k := ?_); intro w hs) | (refine al hs (k := ?_); intro b w hz hs) | (refine bx hs (k := ?_); intro b w hz hs) | (refine bs hs (k := ?_); intro b w hz hs) | refine XS.nil ?_ | refine then_of ?_ | refine xc_seq ?_ | (refine xc_region ?_ ?_; exact rfl) | refine xc_block ?_ | refine block_normal ?_ | refine xc_ret ?_ | refine then_ret ?_ | refine block_ret ?_ | refine xc_skip ?_ | refine xc_exit ?_ | refine then_exit ?_ | refine loopS_exit ?_ | refine loopS_ret ?_ | refine cutB_ret ?_ | refine cutN_ret ?_ | refine cutN_exit ?_ | refine block_exit ?_ | (refine block_other ?_ ?_; exact rfl) | (refine xc_true ?_ ?_; exact rfl) | (refine xc_false ?_ ?_; exact rfl) | ((with_reducible apply xs_guard); exact rfl; exact rfl; intro c hc; (fail_if_success (have : true = c := hc)); (fail_if_success (have : false = c := hc)); cases c) | (refine xc_if rfl (fun hc => ?_) (fun hc => ?_)) | (refine xc_cond rfl (fun hc => ?_) (fun hc => ?_)))
    first | refine rt (hq := ?_) | refine rt' (hq := ?_)
    exact ⟨⟨none, [], rfl, ⟨rfl, rfl⟩, List.nodup_nil, fun k h => by cases h⟩, hs.only0 rfl⟩
  | .node l y r c, p, fp, w0, ⟨b, av, pl, pr, fl, fr, hp, hf, hb, hav, hl, hr⟩ => by
    subst hp hf
    obtain ⟨adv, cpv, rfl, _⟩ := id hav
    have hs := (St.nil w0).track hb (by simp)
    refine ret_of_xc Try.func88 (by kernel_rfl) rfl Try.ntmps88 rfl rfl rfl ?_
    repeat' (first | refine vs (k := ?_) | refine ps (k := ?_) | (refine st hs (k := ?_); intro w hs) | (refine stA hs (k := ?_); intro w hs) | (refine al hs (k := ?_); intro b w hz hs) | (refine bx hs (k := ?_); intro b w hz hs) | (refine bs hs (k := ?_); intro b w hz hs) | refine XS.nil ?_ | refine then_of ?_ | refine xc_seq ?_ | refine xc_block ?_ | refine block_normal ?_ | refine xc_ret ?_ | refine then_ret ?_ | refine block_ret ?_ | refine xc_skip ?_ | refine xc_exit ?_ | refine then_exit ?_ | refine loopS_exit ?_ | refine loopS_ret ?_ | refine cutB_ret ?_ | refine cutN_ret ?_ | refine cutN_exit ?_ | refine block_exit ?_ | (refine block_other ?_ ?_; exact rfl) | (refine xc_true ?_ ?_; exact rfl) | (refine xc_false ?_ ?_; exact rfl) | ((with_reducible apply xs_guard); exact rfl; exact rfl; intro c hc; (fail_if_success (have : true = c := hc)); (fail_if_success (have : false = c := hc)); cases c) | (refine xc_if rfl (fun hc => ?_) (fun hc => ?_)) | (refine xc_cond rfl (fun hc => ?_) (fun hc => ?_)))
    refine xc_region ?_ ?_; exact rfl
    repeat' (first | refine vs (k := ?_) | refine ps (k := ?_) | (refine st hs (k := ?_); intro w hs) | (refine stA hs (k := ?_); intro w hs) | (refine al hs (k := ?_); intro b w hz hs) | (refine bx hs (k := ?_); intro b w hz hs) | (refine bs hs (k := ?_); intro b w hz hs) | refine XS.nil ?_ | refine then_of ?_ | refine xc_seq ?_ | refine xc_block ?_ | refine block_normal ?_ | refine xc_ret ?_ | refine then_ret ?_ | refine block_ret ?_ | refine xc_skip ?_ | refine xc_exit ?_ | refine then_exit ?_ | refine loopS_exit ?_ | refine loopS_ret ?_ | refine cutB_ret ?_ | refine cutN_ret ?_ | refine cutN_exit ?_ | refine block_exit ?_ | (refine block_other ?_ ?_; exact rfl) | (refine xc_true ?_ ?_; exact rfl) | (refine xc_false ?_ ?_; exact rfl) | ((with_reducible apply xs_guard); exact rfl; exact rfl; intro c hc; (fail_if_success (have : true = c := hc)); (fail_if_success (have : false = c := hc)); cases c) | (refine xc_if rfl (fun hc => ?_) (fun hc => ?_)) | (refine xc_cond rfl (fun hc => ?_) (fun hc => ?_)))
    refine xc_region ?_ ?_; exact rfl
    repeat' (first | refine vs (k := ?_) | refine ps (k := ?_) | (refine st hs (k := ?_); intro w hs) | (refine stA hs (k := ?_); intro w hs) | (refine al hs (k := ?_); intro b w hz hs) | (refine bx hs (k := ?_); intro b w hz hs) | (refine bs hs (k := ?_); intro b w hz hs) | refine XS.nil ?_ | refine then_of ?_ | refine xc_seq ?_ | refine xc_block ?_ | refine block_normal ?_ | refine xc_ret ?_ | refine then_ret ?_ | refine block_ret ?_ | refine xc_skip ?_ | refine xc_exit ?_ | refine then_exit ?_ | refine loopS_exit ?_ | refine loopS_ret ?_ | refine cutB_ret ?_ | refine cutN_ret ?_ | refine cutN_exit ?_ | refine block_exit ?_ | (refine block_other ?_ ?_; exact rfl) | (refine xc_true ?_ ?_; exact rfl) | (refine xc_false ?_ ?_; exact rfl) | ((with_reducible apply xs_guard); exact rfl; exact rfl; intro c hc; (fail_if_success (have : true = c := hc)); (fail_if_success (have : false = c := hc)); cases c) | (refine xc_if rfl (fun hc => ?_) (fun hc => ?_)) | (refine xc_cond rfl (fun hc => ?_) (fun hc => ?_)))
    refine xc_region ?_ ?_; exact rfl
    refine vs (k := ?_)
    refine vs (k := ?_)
    refine vs (k := ?_)
    refine al hs (k := ?_); intro b3 w hz hs
    repeat' (first | refine vs (k := ?_) | refine ps (k := ?_) | (refine st hs (k := ?_); intro w hs) | (refine stA hs (k := ?_); intro w hs) | (refine al hs (k := ?_); intro b w hz hs) | (refine bx hs (k := ?_); intro b w hz hs) | (refine bs hs (k := ?_); intro b w hz hs) | refine XS.nil ?_ | refine then_of ?_ | refine xc_seq ?_ | (refine xc_region ?_ ?_; exact rfl) | refine xc_block ?_ | refine block_normal ?_ | refine xc_ret ?_ | refine then_ret ?_ | refine block_ret ?_ | refine xc_skip ?_ | refine xc_exit ?_ | refine then_exit ?_ | refine loopS_exit ?_ | refine loopS_ret ?_ | refine cutB_ret ?_ | refine cutN_ret ?_ | refine cutN_exit ?_ | refine block_exit ?_ | (refine block_other ?_ ?_; exact rfl) | (refine xc_true ?_ ?_; exact rfl) | (refine xc_false ?_ ?_; exact rfl) | ((with_reducible apply xs_guard); exact rfl; exact rfl; intro c hc; (fail_if_success (have : true = c := hc)); (fail_if_success (have : false = c := hc)); cases c) | (refine xc_if rfl (fun hc => ?_) (fun hc => ?_)) | (refine xc_cond rfl (fun hc => ?_) (fun hc => ?_)))
    have hnew := hs.new (b3, true) (by simp) rfl
    refine dr [11, 13] hs (k := ?_); intro hX w hs
    refine tk 0 hX (k := ?_)
    refine tk 1 hX (k := ?_)
    refine tk 2 hX (k := ?_)
    refine tk 3 hX (k := ?_)
    refine tk 5 hX (k := ?_)
    refine tk 6 hX (k := ?_)
    refine tk 7 hX (k := ?_)
    refine tk 8 hX (k := ?_)
    refine dt 4 hX (k := ?_)
    have ho1 := hs.onlyF [] (by simp [hb]) (by simp [D0])
    have hb3 := hs.get At.head
    (with_reducible apply xs_call); exact rfl; exact rfl; exact copied_ret l pl fl _ (hl.keep ho1 (Nodes.nil _) (by simp))
    rintro v w1 ⟨⟨pl', fl', rfl, hl', hnl', hgl'⟩, ho⟩; replace hs := hs.call0 ho
    repeat' (first | refine vs (k := ?_) | refine ps (k := ?_) | (refine st hs (k := ?_); intro w hs) | (refine stA hs (k := ?_); intro w hs) | (refine al hs (k := ?_); intro b w hz hs) | (refine bx hs (k := ?_); intro b w hz hs) | (refine bs hs (k := ?_); intro b w hz hs) | refine XS.nil ?_ | refine then_of ?_ | refine xc_seq ?_ | (refine xc_region ?_ ?_; exact rfl) | refine xc_block ?_ | refine block_normal ?_ | refine xc_ret ?_ | refine then_ret ?_ | refine block_ret ?_ | refine xc_skip ?_ | refine xc_exit ?_ | refine then_exit ?_ | refine loopS_exit ?_ | refine loopS_ret ?_ | refine cutB_ret ?_ | refine cutN_ret ?_ | refine cutN_exit ?_ | refine block_exit ?_ | (refine block_other ?_ ?_; exact rfl) | (refine xc_true ?_ ?_; exact rfl) | (refine xc_false ?_ ?_; exact rfl) | ((with_reducible apply xs_guard); exact rfl; exact rfl; intro c hc; (fail_if_success (have : true = c := hc)); (fail_if_success (have : false = c := hc)); cases c) | (refine xc_if rfl (fun hc => ?_) (fun hc => ?_)) | (refine xc_cond rfl (fun hc => ?_) (fun hc => ?_)))
    refine dn (k := ?_)
    refine dt 9 hX (k := ?_)
    have ho2 := hs.onlyF [] (by simp [hb]) (by simp [D0])
    (with_reducible apply xs_call); exact rfl; exact rfl; exact copied_ret r pr fr _ (hr.keep ho2 (Nodes.nil _) (by simp))
    rintro v w2 ⟨⟨pr', fr', rfl, hr', hnr', hgr'⟩, ho'⟩; replace hs := hs.call0 ho'
    have hl2 := hl'.keep ho' (Nodes.nil _) (by simp)
    have ho3 := hs.onlyF [] (by simp [hb]) (by simp [D0])
    have hb4 := hs.get At.head
    have hb5 := hs.get (At.tail At.head)
    have hsz1 := ho1.size
    have hsz := ho.size
    have hsz2 := ho2.size
    have hlt3 := lt_of_block hb3
    have d1 : b3 ∉ fl' := fun h => by have := hgl' b3 h; omega
    have d2 : b3 ∉ fr' := fun h => by have := hgr' b3 h; have := hl'.nodes.lt; omega
    have d3 : ∀ i ∈ fl', ∀ j ∈ fr', i ≠ j := fun i hi j hj e => by
      subst e
      have := hgr' i hj
      have := hl'.nodes.lt i hi
      omega
    have hbb : b3 ≠ b := fun e => by subst e; have := lt_of_block hb; have : w0.heap.size ≤ b3 := hnew; omega
    repeat' (first | refine vs (k := ?_) | refine ps (k := ?_) | (refine st hs (k := ?_); intro w hs) | (refine stA hs (k := ?_); intro w hs) | (refine al hs (k := ?_); intro b w hz hs) | (refine bx hs (k := ?_); intro b w hz hs) | (refine bs hs (k := ?_); intro b w hz hs) | refine XS.nil ?_ | refine then_of ?_ | refine xc_seq ?_ | (refine xc_region ?_ ?_; exact rfl) | refine xc_block ?_ | refine block_normal ?_ | refine xc_ret ?_ | refine then_ret ?_ | refine block_ret ?_ | refine xc_skip ?_ | refine xc_exit ?_ | refine then_exit ?_ | refine loopS_exit ?_ | refine loopS_ret ?_ | refine cutB_ret ?_ | refine cutN_ret ?_ | refine cutN_exit ?_ | refine block_exit ?_ | (refine block_other ?_ ?_; exact rfl) | (refine xc_true ?_ ?_; exact rfl) | (refine xc_false ?_ ?_; exact rfl) | ((with_reducible apply xs_guard); exact rfl; exact rfl; intro c hc; (fail_if_success (have : true = c := hc)); (fail_if_success (have : false = c := hc)); cases c) | (refine xc_if rfl (fun hc => ?_) (fun hc => ?_)) | (refine xc_cond rfl (fun hc => ?_) (fun hc => ?_)))
    refine dn (k := ?_)
    refine tk 10 hX (k := ?_)
    clear hs
    have hs := ((St.nil w2).track hb5 (by simp)).track hb4 (by simpa using hbb)
    refine dt 11 hX (k := ?_)
    repeat' (first | refine vs (k := ?_) | refine ps (k := ?_) | (refine st hs (k := ?_); intro w hs) | (refine stA hs (k := ?_); intro w hs) | (refine al hs (k := ?_); intro b w hz hs) | (refine bx hs (k := ?_); intro b w hz hs) | (refine bs hs (k := ?_); intro b w hz hs) | refine XS.nil ?_ | refine then_of ?_ | refine xc_seq ?_ | (refine xc_region ?_ ?_; exact rfl) | refine xc_block ?_ | refine block_normal ?_ | refine xc_ret ?_ | refine then_ret ?_ | refine block_ret ?_ | refine xc_skip ?_ | refine xc_exit ?_ | refine then_exit ?_ | refine loopS_exit ?_ | refine loopS_ret ?_ | refine cutB_ret ?_ | refine cutN_ret ?_ | refine cutN_exit ?_ | refine block_exit ?_ | (refine block_other ?_ ?_; exact rfl) | (refine xc_true ?_ ?_; exact rfl) | (refine xc_false ?_ ?_; exact rfl) | ((with_reducible apply xs_guard); exact rfl; exact rfl; intro c hc; (fail_if_success (have : true = c := hc)); (fail_if_success (have : false = c := hc)); cases c) | (refine xc_if rfl (fun hc => ?_) (fun hc => ?_)) | (refine xc_cond rfl (fun hc => ?_) (fun hc => ?_)))
    refine dn (k := ?_)
    refine tk 12 hX (k := ?_)
    refine dt 13 hX (k := ?_)
    repeat' (first | refine vs (k := ?_) | refine ps (k := ?_) | (refine st hs (k := ?_); intro w hs) | (refine stA hs (k := ?_); intro w hs) | (refine al hs (k := ?_); intro b w hz hs) | (refine bx hs (k := ?_); intro b w hz hs) | (refine bs hs (k := ?_); intro b w hz hs) | refine XS.nil ?_ | refine then_of ?_ | refine xc_seq ?_ | (refine xc_region ?_ ?_; exact rfl) | refine xc_block ?_ | refine block_normal ?_ | refine xc_ret ?_ | refine then_ret ?_ | refine block_ret ?_ | refine xc_skip ?_ | refine xc_exit ?_ | refine then_exit ?_ | refine loopS_exit ?_ | refine loopS_ret ?_ | refine cutB_ret ?_ | refine cutN_ret ?_ | refine cutN_exit ?_ | refine block_exit ?_ | (refine block_other ?_ ?_; exact rfl) | (refine xc_true ?_ ?_; exact rfl) | (refine xc_false ?_ ?_; exact rfl) | ((with_reducible apply xs_guard); exact rfl; exact rfl; intro c hc; (fail_if_success (have : true = c := hc)); (fail_if_success (have : false = c := hc)); cases c) | (refine xc_if rfl (fun hc => ?_) (fun hc => ?_)) | (refine xc_cond rfl (fun hc => ?_) (fun hc => ?_)))
    refine dn (k := ?_)
    refine en (k := ?_)
    repeat' (first | refine vs (k := ?_) | refine ps (k := ?_) | (refine st hs (k := ?_); intro w hs) | (refine stA hs (k := ?_); intro w hs) | (refine al hs (k := ?_); intro b w hz hs) | (refine bx hs (k := ?_); intro b w hz hs) | (refine bs hs (k := ?_); intro b w hz hs) | refine XS.nil ?_ | refine then_of ?_ | refine xc_seq ?_ | (refine xc_region ?_ ?_; exact rfl) | refine xc_block ?_ | refine block_normal ?_ | refine xc_ret ?_ | refine then_ret ?_ | refine block_ret ?_ | refine xc_skip ?_ | refine xc_exit ?_ | refine then_exit ?_ | refine loopS_exit ?_ | refine loopS_ret ?_ | refine cutB_ret ?_ | refine cutN_ret ?_ | refine cutN_exit ?_ | refine block_exit ?_ | (refine block_other ?_ ?_; exact rfl) | (refine xc_true ?_ ?_; exact rfl) | (refine xc_false ?_ ?_; exact rfl) | ((with_reducible apply xs_guard); exact rfl; exact rfl; intro c hc; (fail_if_success (have : true = c := hc)); (fail_if_success (have : false = c := hc)); cases c) | (refine xc_if rfl (fun hc => ?_) (fun hc => ?_)) | (refine xc_cond rfl (fun hc => ?_) (fun hc => ?_)))
    first | refine rt (hq := ?_) | refine rt' (hq := ?_)
    have ho4 : Only [b3] w2 _ := hs.onlyF [b3] (by simp [hb5]) (by simp [D0])
    have hN : Nodes w2 [b3] := Nodes.cons hb4 (Nodes.nil _)
    refine ⟨⟨_, b3 :: (fl' ++ fr'), rfl, ⟨b3, _, pl', pr', fl', fr', rfl, rfl, hs.get At.head, (hav.only ho3).keep ho4 hN, hl2.keep ho4 hN (fun k hk hm => d1 (by obtain rfl := List.mem_singleton.1 hm; exact hk)), hr'.keep ho4 hN (fun k hk hm => d2 (by obtain rfl := List.mem_singleton.1 hm; exact hk))⟩, ?_, ?_⟩, ho3.step ho4 (fun k hk => .inr (by obtain rfl := List.mem_singleton.1 hk; exact hnew))⟩
    · simp only [List.nodup_cons, List.nodup_append, List.mem_append]
      exact ⟨fun h => by rcases h with h | h; exact d1 h; exact d2 h, hnl', hnr', d3⟩
    · intro k hk
      rcases List.mem_cons.1 hk with rfl | hk
      · exact hnew
      · rcases List.mem_append.1 hk with hk | hk
        · have := hgl' k hk; omega
        · have := hgr' k hk; omega
theorem setClone_ret (tb : Nat) (xs : List Int) (F : List Nat) (w0 : World) (h : Set6 w0 tb xs F) : Ret Try.prog 47 #[.pointer (some ⟨tb, 0, none⟩)] w0 fun v w' => (∃ tb' F', v = .pointer (some ⟨tb', 0, none⟩) ∧ Set6 w' tb' xs F' ∧ ∀ k ∈ F', w0.heap.size ≤ k) ∧ Only [] w0 w' := by
  obtain ⟨t, ⟨p, fp, rfl, hT, ht, hnd⟩, h2, rfl, h4⟩ := h
  have hs := (St.nil w0).track hT (by simp)
  refine ret_of_xc Try.func47 (by kernel_rfl) rfl Try.ntmps47 rfl rfl rfl ?_
  repeat' (first | refine vs (k := ?_) | refine ps (k := ?_) | (refine st hs (k := ?_); intro w hs) | (refine stA hs (k := ?_); intro w hs) | (refine al hs (k := ?_); intro b w hz hs) | (refine bx hs (k := ?_); intro b w hz hs) | (refine bs hs (k := ?_); intro b w hz hs) | refine XS.nil ?_ | refine then_of ?_ | refine xc_seq ?_ | refine xc_block ?_ | refine block_normal ?_ | refine xc_ret ?_ | refine then_ret ?_ | refine block_ret ?_ | refine xc_skip ?_ | refine xc_exit ?_ | refine then_exit ?_ | refine loopS_exit ?_ | refine loopS_ret ?_ | refine cutB_ret ?_ | refine cutN_ret ?_ | refine cutN_exit ?_ | refine block_exit ?_ | (refine block_other ?_ ?_; exact rfl) | (refine xc_true ?_ ?_; exact rfl) | (refine xc_false ?_ ?_; exact rfl) | ((with_reducible apply xs_guard); exact rfl; exact rfl; intro c hc; (fail_if_success (have : true = c := hc)); (fail_if_success (have : false = c := hc)); cases c) | (refine xc_if rfl (fun hc => ?_) (fun hc => ?_)) | (refine xc_cond rfl (fun hc => ?_) (fun hc => ?_)))
  refine xc_region ?_ ?_; exact rfl
  repeat' (first | refine vs (k := ?_) | refine ps (k := ?_) | (refine st hs (k := ?_); intro w hs) | (refine stA hs (k := ?_); intro w hs) | (refine al hs (k := ?_); intro b w hz hs) | (refine bx hs (k := ?_); intro b w hz hs) | (refine bs hs (k := ?_); intro b w hz hs) | refine XS.nil ?_ | refine then_of ?_ | refine xc_seq ?_ | refine xc_block ?_ | refine block_normal ?_ | refine xc_ret ?_ | refine then_ret ?_ | refine block_ret ?_ | refine xc_skip ?_ | refine xc_exit ?_ | refine then_exit ?_ | refine loopS_exit ?_ | refine loopS_ret ?_ | refine cutB_ret ?_ | refine cutN_ret ?_ | refine cutN_exit ?_ | refine block_exit ?_ | (refine block_other ?_ ?_; exact rfl) | (refine xc_true ?_ ?_; exact rfl) | (refine xc_false ?_ ?_; exact rfl) | ((with_reducible apply xs_guard); exact rfl; exact rfl; intro c hc; (fail_if_success (have : true = c := hc)); (fail_if_success (have : false = c := hc)); cases c) | (refine xc_if rfl (fun hc => ?_) (fun hc => ?_)) | (refine xc_cond rfl (fun hc => ?_) (fun hc => ?_)))
  refine xc_region ?_ ?_; exact rfl
  repeat' (first | refine vs (k := ?_) | refine ps (k := ?_) | (refine st hs (k := ?_); intro w hs) | (refine stA hs (k := ?_); intro w hs) | (refine al hs (k := ?_); intro b w hz hs) | (refine bx hs (k := ?_); intro b w hz hs) | (refine bs hs (k := ?_); intro b w hz hs) | refine XS.nil ?_ | refine then_of ?_ | refine xc_seq ?_ | refine xc_block ?_ | refine block_normal ?_ | refine xc_ret ?_ | refine then_ret ?_ | refine block_ret ?_ | refine xc_skip ?_ | refine xc_exit ?_ | refine then_exit ?_ | refine loopS_exit ?_ | refine loopS_ret ?_ | refine cutB_ret ?_ | refine cutN_ret ?_ | refine cutN_exit ?_ | refine block_exit ?_ | (refine block_other ?_ ?_; exact rfl) | (refine xc_true ?_ ?_; exact rfl) | (refine xc_false ?_ ?_; exact rfl) | ((with_reducible apply xs_guard); exact rfl; exact rfl; intro c hc; (fail_if_success (have : true = c := hc)); (fail_if_success (have : false = c := hc)); cases c) | (refine xc_if rfl (fun hc => ?_) (fun hc => ?_)) | (refine xc_cond rfl (fun hc => ?_) (fun hc => ?_)))
  refine xc_region ?_ ?_; exact rfl
  refine vs (k := ?_)
  refine vs (k := ?_)
  refine vs (k := ?_)
  refine al hs (k := ?_); intro b3 w hz hs
  repeat' (first | refine vs (k := ?_) | refine ps (k := ?_) | (refine st hs (k := ?_); intro w hs) | (refine stA hs (k := ?_); intro w hs) | (refine al hs (k := ?_); intro b w hz hs) | (refine bx hs (k := ?_); intro b w hz hs) | (refine bs hs (k := ?_); intro b w hz hs) | refine XS.nil ?_ | refine then_of ?_ | refine xc_seq ?_ | (refine xc_region ?_ ?_; exact rfl) | refine xc_block ?_ | refine block_normal ?_ | refine xc_ret ?_ | refine then_ret ?_ | refine block_ret ?_ | refine xc_skip ?_ | refine xc_exit ?_ | refine then_exit ?_ | refine loopS_exit ?_ | refine loopS_ret ?_ | refine cutB_ret ?_ | refine cutN_ret ?_ | refine cutN_exit ?_ | refine block_exit ?_ | (refine block_other ?_ ?_; exact rfl) | (refine xc_true ?_ ?_; exact rfl) | (refine xc_false ?_ ?_; exact rfl) | ((with_reducible apply xs_guard); exact rfl; exact rfl; intro c hc; (fail_if_success (have : true = c := hc)); (fail_if_success (have : false = c := hc)); cases c) | (refine xc_if rfl (fun hc => ?_) (fun hc => ?_)) | (refine xc_cond rfl (fun hc => ?_) (fun hc => ?_)))
  have hnew := hs.new (b3, true) (by simp) rfl
  have ho1 := hs.onlyF [] (by simp [hT]) (by simp [D0])
  have hb3 := hs.get At.head
  have hlt3 := lt_of_block hb3
  (with_reducible apply xs_call); exact rfl; exact rfl; exact copied_ret t p fp _ (ht.keep ho1 (Nodes.nil _) (by simp))
  rintro v w1 ⟨⟨p', fp', rfl, ht', hn', hg'⟩, ho⟩; replace hs := hs.call0 ho
  have hb4 := hs.get At.head
  have hT4 := hs.get (At.tail At.head)
  have ho2 := hs.onlyF [] (by simp [hT]) (by simp [D0])
  have hbt : b3 ≠ tb := fun e => by subst e; have := lt_of_block hT; have : w0.heap.size ≤ b3 := hnew; omega
  have d1 : b3 ∉ fp' := fun h => by have := hg' b3 h; omega
  clear hs
  have hs := ((St.nil w1).track hT4 (by simp)).track hb4 (by simpa using hbt)
  repeat' (first | refine vs (k := ?_) | refine ps (k := ?_) | (refine st hs (k := ?_); intro w hs) | (refine stA hs (k := ?_); intro w hs) | (refine al hs (k := ?_); intro b w hz hs) | (refine bx hs (k := ?_); intro b w hz hs) | (refine bs hs (k := ?_); intro b w hz hs) | refine XS.nil ?_ | refine then_of ?_ | refine xc_seq ?_ | (refine xc_region ?_ ?_; exact rfl) | refine xc_block ?_ | refine block_normal ?_ | refine xc_ret ?_ | refine then_ret ?_ | refine block_ret ?_ | refine xc_skip ?_ | refine xc_exit ?_ | refine then_exit ?_ | refine loopS_exit ?_ | refine loopS_ret ?_ | refine cutB_ret ?_ | refine cutN_ret ?_ | refine cutN_exit ?_ | refine block_exit ?_ | (refine block_other ?_ ?_; exact rfl) | (refine xc_true ?_ ?_; exact rfl) | (refine xc_false ?_ ?_; exact rfl) | ((with_reducible apply xs_guard); exact rfl; exact rfl; intro c hc; (fail_if_success (have : true = c := hc)); (fail_if_success (have : false = c := hc)); cases c) | (refine xc_if rfl (fun hc => ?_) (fun hc => ?_)) | (refine xc_cond rfl (fun hc => ?_) (fun hc => ?_)))
  first | refine rt (hq := ?_) | refine rt' (hq := ?_)
  have ho4 : Only [b3] w1 _ := hs.onlyF [b3] (by simp [hT4]) (by simp [D0])
  refine ⟨⟨b3, b3 :: fp', rfl, ⟨t, ⟨p', fp', rfl, hs.get At.head, ht'.keep' ho4 (fun k hk cs fz e => ?_) (fun k hk hm => d1 (by obtain rfl := List.mem_singleton.1 hm; exact hk)), hn'⟩, h2, rfl, h4⟩, fun k hk => ?_⟩, ho2.step ho4 (fun k hk => .inr (by obtain rfl := List.mem_singleton.1 hk; exact hnew))⟩
  · obtain rfl := List.mem_singleton.1 hk
    rw [hb4] at e; cases e
  · rcases List.mem_cons.1 hk with rfl | hk
    · exact hnew
    · have := hg' k hk
      have := ho1.size
      omega
set_option maxHeartbeats 1000000 in
theorem setMin_ret (tb : Nat) (xs : List Int) (F : List Nat) (w0 : World) (h : Set6 w0 tb xs F) : Ret Try.prog 51 #[.pointer (some ⟨tb, 0, none⟩)] w0 fun v w' => v = .tuple #[.int .i64 (xs.headD 0), .bool (decide (xs ≠ []))] ∧ Only [] w0 w' := by
  have hL := setLen_ret tb xs F w0 h
  obtain ⟨t, ⟨p, fp, rfl, hT, ht, hnd⟩, h2, rfl, h4⟩ := h
  have hs := (St.nil w0).track hT (by simp)
  refine ret_of_xc Try.func51 (by kernel_rfl) rfl Try.ntmps51 rfl rfl rfl ?_
  repeat' (first | refine vs (k := ?_) | refine ps (k := ?_) | (refine st hs (k := ?_); intro w hs) | (refine stA hs (k := ?_); intro w hs) | (refine al hs (k := ?_); intro b w hz hs) | (refine bx hs (k := ?_); intro b w hz hs) | (refine bs hs (k := ?_); intro b w hz hs) | refine XS.nil ?_ | refine then_of ?_ | refine xc_seq ?_ | (refine xc_region ?_ ?_; exact rfl) | refine xc_block ?_ | refine block_normal ?_ | refine xc_ret ?_ | refine then_ret ?_ | refine block_ret ?_ | refine xc_skip ?_ | refine xc_exit ?_ | refine then_exit ?_ | refine loopS_exit ?_ | refine loopS_ret ?_ | refine cutB_ret ?_ | refine cutN_ret ?_ | refine cutN_exit ?_ | refine block_exit ?_ | (refine block_other ?_ ?_; exact rfl) | (refine xc_true ?_ ?_; exact rfl) | (refine xc_false ?_ ?_; exact rfl) | ((with_reducible apply xs_guard); exact rfl; exact rfl; intro c hc; (fail_if_success (have : true = c := hc)); (fail_if_success (have : false = c := hc)); cases c) | (refine xc_if rfl (fun hc => ?_) (fun hc => ?_)) | (refine xc_cond rfl (fun hc => ?_) (fun hc => ?_)))
  (with_reducible apply xs_call); exact rfl; exact rfl; exact hL
  rintro v w1 ⟨rfl, ho⟩; replace hs := hs.call0 ho
  cases t with
  | nil =>
    repeat' (first | refine vs (k := ?_) | refine ps (k := ?_) | (refine st hs (k := ?_); intro w hs) | (refine stA hs (k := ?_); intro w hs) | (refine al hs (k := ?_); intro b w hz hs) | (refine bx hs (k := ?_); intro b w hz hs) | (refine bs hs (k := ?_); intro b w hz hs) | refine XS.nil ?_ | refine then_of ?_ | refine xc_seq ?_ | (refine xc_region ?_ ?_; exact rfl) | refine xc_block ?_ | refine block_normal ?_ | refine xc_ret ?_ | refine then_ret ?_ | refine block_ret ?_ | refine xc_skip ?_ | refine xc_exit ?_ | refine then_exit ?_ | refine loopS_exit ?_ | refine loopS_ret ?_ | refine cutB_ret ?_ | refine cutN_ret ?_ | refine cutN_exit ?_ | refine block_exit ?_ | (refine block_other ?_ ?_; exact rfl) | (refine xc_true ?_ ?_; exact rfl) | (refine xc_false ?_ ?_; exact rfl) | ((with_reducible apply xs_guard); exact rfl; exact rfl; intro c hc; (fail_if_success (have : true = c := hc)); (fail_if_success (have : false = c := hc)); cases c) | (refine xc_if rfl (fun hc => ?_) (fun hc => ?_)) | (refine xc_cond rfl (fun hc => ?_) (fun hc => ?_)))
    first | refine rt (hq := ?_) | refine rt' (hq := ?_)
    exact ⟨rfl, hs.onlyF [] (by simp [hT]) (by simp [D0])⟩
  | node l y r c =>
    have hpos : ((((RB.node l y r c).list.length : Nat) : Int) == 0) = false := by
      rw [beq_eq_false_iff_ne]
      simp [RB.list]
      omega
    obtain ⟨m, hm, hm2⟩ := RB.least_cons (t := RB.node l y r c) rfl
    have hne : decide ((RB.node l y r c).list ≠ []) = true := decide_eq_true (by rw [hm2]; simp)
    have hhd : (RB.node l y r c).list.headD 0 = m := by rw [hm2]; rfl
    rw [hne, hhd]
    refine vs (k := ?_)
    refine xs_set 8 (v := .bool false) (congrArg Value.bool hpos) ?_
    repeat' (first | refine vs (k := ?_) | refine ps (k := ?_) | (refine st hs (k := ?_); intro w hs) | (refine stA hs (k := ?_); intro w hs) | (refine al hs (k := ?_); intro b w hz hs) | (refine bx hs (k := ?_); intro b w hz hs) | (refine bs hs (k := ?_); intro b w hz hs) | refine XS.nil ?_ | refine then_of ?_ | refine xc_seq ?_ | (refine xc_region ?_ ?_; exact rfl) | refine xc_block ?_ | refine block_normal ?_ | refine xc_ret ?_ | refine then_ret ?_ | refine block_ret ?_ | refine xc_skip ?_ | refine xc_exit ?_ | refine then_exit ?_ | refine loopS_exit ?_ | refine loopS_ret ?_ | refine cutB_ret ?_ | refine cutN_ret ?_ | refine cutN_exit ?_ | refine block_exit ?_ | (refine block_other ?_ ?_; exact rfl) | (refine xc_true ?_ ?_; exact rfl) | (refine xc_false ?_ ?_; exact rfl) | ((with_reducible apply xs_guard); exact rfl; exact rfl; intro c hc; (fail_if_success (have : true = c := hc)); (fail_if_success (have : false = c := hc)); cases c) | (refine xc_if rfl (fun hc => ?_) (fun hc => ?_)) | (refine xc_cond rfl (fun hc => ?_) (fun hc => ?_)))
    have hT1 := hs.get At.head
    have ho1 := hs.onlyF [] (by simp [hT]) (by simp [D0])
    refine xc_cutB (fun b : Nat => [(5, .pointer (some ⟨b, 0, none⟩))]) (fun b w => Only [] w0 w ∧ ∃ av pl pr c, w0.heap[b]? = some (nodeO m av pl pr c)) ?_ ?_
    · refine xc_loopS (fun (s : RB Int × Option Addr) => [(5, .pointer s.2)]) (fun s w => Only [] w0 w ∧ RB.least s.1 = some m ∧ ∃ fps, TreeAt w0 s.1 s.2 fps) (fun s => s.1.list.length) (.node l y r c, p) (by (repeat (first | exact agree_nil | (apply agree_cons; exact rfl)))) ⟨ho1, hm, fp, ht⟩ fun s env w2 ⟨g1, g2, fps, g3⟩ => ?_
      clear hs
      obtain ⟨s, ps⟩ := s
      dsimp only at g2 g3 ⊢
      cases s with
      | nil => cases g2
      | node sl sz sr sc =>
      obtain ⟨q, avq, pql, pqr, fql, fqr, rfl, rfl, hqb, hqa, hql, hqr⟩ := g3
      have hq2 := g1.block hqb (by simp)
      have hs := (St.nil w2).track hq2 (by simp)
      cases sl with
      | nil =>
        obtain ⟨rfl, rfl⟩ := hql
        simp only [RB.least, Option.some.injEq] at g2
        subst g2
        repeat' (first | refine vs (k := ?_) | refine ps (k := ?_) | (refine st hs (k := ?_); intro w hs) | (refine stA hs (k := ?_); intro w hs) | (refine al hs (k := ?_); intro b w hz hs) | (refine bx hs (k := ?_); intro b w hz hs) | (refine bs hs (k := ?_); intro b w hz hs) | refine XS.nil ?_ | refine then_of ?_ | refine xc_seq ?_ | (refine xc_region ?_ ?_; exact rfl) | refine xc_block ?_ | refine block_normal ?_ | refine xc_ret ?_ | refine then_ret ?_ | refine block_ret ?_ | refine xc_skip ?_ | refine xc_exit ?_ | refine then_exit ?_ | refine loopS_exit ?_ | refine loopS_ret ?_ | refine cutB_ret ?_ | refine cutN_ret ?_ | refine cutN_exit ?_ | refine block_exit ?_ | (refine block_other ?_ ?_; exact rfl) | (refine xc_true ?_ ?_; exact rfl) | (refine xc_false ?_ ?_; exact rfl) | ((with_reducible apply xs_guard); exact rfl; exact rfl; intro c hc; (fail_if_success (have : true = c := hc)); (fail_if_success (have : false = c := hc)); cases c) | (refine xc_if rfl (fun hc => ?_) (fun hc => ?_)) | (refine xc_cond rfl (fun hc => ?_) (fun hc => ?_)))
        exact cutB_exit q (by (repeat (first | exact agree_nil | (apply agree_cons; exact rfl)))) ⟨g1.step (hs.onlyF [] (by simp [hq2]) (by simp [D0])) (by simp), _, _, _, _, hqb⟩
      | node a1 a2 a3 a4 =>
        have hql0 := hql
        obtain ⟨_, _, _, _, _, _, rfl, _⟩ := hql
        repeat' (first | refine vs (k := ?_) | refine ps (k := ?_) | (refine st hs (k := ?_); intro w hs) | (refine stA hs (k := ?_); intro w hs) | (refine al hs (k := ?_); intro b w hz hs) | (refine bx hs (k := ?_); intro b w hz hs) | (refine bs hs (k := ?_); intro b w hz hs) | refine XS.nil ?_ | refine then_of ?_ | refine xc_seq ?_ | (refine xc_region ?_ ?_; exact rfl) | refine xc_block ?_ | refine block_normal ?_ | refine xc_ret ?_ | refine then_ret ?_ | refine block_ret ?_ | refine xc_skip ?_ | refine xc_exit ?_ | refine then_exit ?_ | refine loopS_exit ?_ | refine loopS_ret ?_ | refine cutB_ret ?_ | refine cutN_ret ?_ | refine cutN_exit ?_ | refine block_exit ?_ | (refine block_other ?_ ?_; exact rfl) | (refine xc_true ?_ ?_; exact rfl) | (refine xc_false ?_ ?_; exact rfl) | ((with_reducible apply xs_guard); exact rfl; exact rfl; intro c hc; (fail_if_success (have : true = c := hc)); (fail_if_success (have : false = c := hc)); cases c) | (refine xc_if rfl (fun hc => ?_) (fun hc => ?_)) | (refine xc_cond rfl (fun hc => ?_) (fun hc => ?_)))
        exact loopS_next (.node a1 a2 a3 a4, _) (by simp only [RB.list, List.length_append, List.length_cons]; omega) (by (repeat (first | exact agree_nil | (apply agree_cons; exact rfl)))) ⟨g1.step (hs.onlyF [] (by simp [hq2]) (by simp [D0])) (by simp), g2, fql, hql0⟩
    · clear hs
      rintro b env w2 ⟨g1, av, pl, pr, c', g2⟩
      have hq2 := g1.block g2 (by simp)
      have hs := (St.nil w2).track hq2 (by simp)
      repeat' (first | refine vs (k := ?_) | refine ps (k := ?_) | (refine st hs (k := ?_); intro w hs) | (refine stA hs (k := ?_); intro w hs) | (refine al hs (k := ?_); intro b w hz hs) | (refine bx hs (k := ?_); intro b w hz hs) | (refine bs hs (k := ?_); intro b w hz hs) | refine XS.nil ?_ | refine then_of ?_ | refine xc_seq ?_ | (refine xc_region ?_ ?_; exact rfl) | refine xc_block ?_ | refine block_normal ?_ | refine xc_ret ?_ | refine then_ret ?_ | refine block_ret ?_ | refine xc_skip ?_ | refine xc_exit ?_ | refine then_exit ?_ | refine loopS_exit ?_ | refine loopS_ret ?_ | refine cutB_ret ?_ | refine cutN_ret ?_ | refine cutN_exit ?_ | refine block_exit ?_ | (refine block_other ?_ ?_; exact rfl) | (refine xc_true ?_ ?_; exact rfl) | (refine xc_false ?_ ?_; exact rfl) | ((with_reducible apply xs_guard); exact rfl; exact rfl; intro c hc; (fail_if_success (have : true = c := hc)); (fail_if_success (have : false = c := hc)); cases c) | (refine xc_if rfl (fun hc => ?_) (fun hc => ?_)) | (refine xc_cond rfl (fun hc => ?_) (fun hc => ?_)))
      first | refine rt (hq := ?_) | refine rt' (hq := ?_)
      exact ⟨rfl, g1.step (hs.onlyF [] (by simp [hq2]) (by simp [D0])) (by simp)⟩
end Go.Proofs.YtjooegonmdmajaaX
