/- rbtree: redLeft, redRight. -/
import Derived.Test.YtjooegonmdmajaaRb10
set_option linter.unusedVariables false
set_option linter.unusedSimpArgs false
set_option maxRecDepth 100000
namespace Go.Proofs.YtjooegonmdmajaaX
open Go Go.RowKit
attribute [local irreducible] XS XC XA thenE blockE retE loopE loopS cutB cutN doneE SE
theorem both_nodes {t : RB Int} (h : RB.both t = true) : ∃ a x b c1 y d z e c2 c, t = .node (.node a x b c1) y (.node d z e c2) c := by
  cases t with
  | nil => cases h
  | node l y r c =>
    cases l with
    | nil => cases h
    | node a x b c1 =>
      cases r with
      | nil => cases h
      | node d z e c2 => exact ⟨_, _, _, _, _, _, _, _, _, _, rfl⟩
theorem sub_up {w0 w : World} {fp fp1 fp2 : List Nat} (h1 : ∀ k ∈ fp1, k ∈ fp ∨ w0.heap.size ≤ k) (h2 : ∀ k ∈ fp2, k ∈ fp1 ∨ w.heap.size ≤ k) (hz : w0.heap.size ≤ w.heap.size) : ∀ k ∈ fp2, k ∈ fp ∨ w0.heap.size ≤ k := fun k hk => by
  rcases h2 k hk with h | h
  · exact h1 k h
  · exact .inr (by omega)
set_option maxHeartbeats 2000000 in
theorem redLeft_ret (tb : Nat) (p0 : Option Addr) (n0 : Int) (t : RB Int) (p : Option Addr) (fp : List Nat) (w0 : World) (hT : w0.heap[tb]? = some (treeO p0 n0)) (h : TreeAt w0 t p fp) (hnd : fp.Nodup) (hlen : t.list.length ≤ 1000000) (hb : RB.both t = true) :
    Ret Try.prog 97 #[.pointer (some ⟨tb, 0, none⟩), .pointer p] w0 fun v w' => Turned w0 fp (RB.redLeft t) v w' := by
  obtain ⟨a, x, b, c1, y, d, z, e, c2, c, rfl⟩ := both_nodes hb
  clear hb
  have hs := St.nil w0
  refine ret_of_xc Try.func97 (by kernel_rfl) rfl Try.ntmps97 rfl rfl rfl ?_
  repeat' (first | refine vs (k := ?_) | refine ps (k := ?_) | (refine st hs (k := ?_); intro w hs) | (refine stA hs (k := ?_); intro w hs) | (refine al hs (k := ?_); intro b w hz hs) | (refine bx hs (k := ?_); intro b w hz hs) | (refine bs hs (k := ?_); intro b w hz hs) | refine XS.nil ?_ | refine then_of ?_ | refine xc_seq ?_ | (refine xc_region ?_ ?_; exact rfl) | refine xc_block ?_ | refine block_normal ?_ | refine xc_ret ?_ | refine then_ret ?_ | refine block_ret ?_ | refine xc_skip ?_ | refine xc_exit ?_ | refine then_exit ?_ | refine loopS_exit ?_ | refine loopS_ret ?_ | refine cutB_ret ?_ | refine cutN_ret ?_ | refine cutN_exit ?_ | refine block_exit ?_ | (refine block_other ?_ ?_; exact rfl) | (refine xc_true ?_ ?_; exact rfl) | (refine xc_false ?_ ?_; exact rfl) | ((with_reducible apply xs_guard); exact rfl; exact rfl; intro c hc; (fail_if_success (have : true = c := hc)); (fail_if_success (have : false = c := hc)); cases c) | (refine xc_if rfl (fun hc => ?_) (fun hc => ?_)) | (refine xc_cond rfl (fun hc => ?_) (fun hc => ?_)))
  (with_reducible apply xs_call); exact rfl; exact rfl; exact rbFlip_ret a x b c1 y d z e c2 c p fp _ h hnd
  rintro v w1 ⟨k1, ho1⟩
  have hT1 := head_keep hT ho1 h.nodes
  clear hs h
  obtain ⟨m, av, pl, pr, fl, fr, rfl, rfl, hm, hav, hl, hr⟩ := k1
  have hr0 := hr
  obtain ⟨u, avu, pd, pe, fd, fe, rfl, rfl, hu, hau, hd, he⟩ := hr
  have hum : u ≠ m := fun e => by subst e; simp at hnd
  have hs := ((St.nil w1).track hm (by simp)).track hu (by simpa using hum)
  repeat' (first | refine vs (k := ?_) | refine ps (k := ?_) | (refine st hs (k := ?_); intro w hs) | (refine stA hs (k := ?_); intro w hs) | (refine al hs (k := ?_); intro b w hz hs) | (refine bx hs (k := ?_); intro b w hz hs) | (refine bs hs (k := ?_); intro b w hz hs) | refine XS.nil ?_ | refine then_of ?_ | refine xc_seq ?_ | (refine xc_region ?_ ?_; exact rfl) | refine xc_block ?_ | refine block_normal ?_ | refine xc_ret ?_ | refine then_ret ?_ | refine block_ret ?_ | refine xc_skip ?_ | refine xc_exit ?_ | refine then_exit ?_ | refine loopS_exit ?_ | refine loopS_ret ?_ | refine cutB_ret ?_ | refine cutN_ret ?_ | refine cutN_exit ?_ | refine block_exit ?_ | (refine block_other ?_ ?_; exact rfl) | (refine xc_true ?_ ?_; exact rfl) | (refine xc_false ?_ ?_; exact rfl) | ((with_reducible apply xs_guard); exact rfl; exact rfl; intro c hc; (fail_if_success (have : true = c := hc)); (fail_if_success (have : false = c := hc)); cases c) | (refine xc_if rfl (fun hc => ?_) (fun hc => ?_)) | (refine xc_cond rfl (fun hc => ?_) (fun hc => ?_)))
  have ho2 : Only [] w1 _ := hs.onlyF [] (by simp [hm, hu]) (by simp [D0])
  (with_reducible apply xs_call); exact rfl; exact rfl; exact isRed_ret d pd fd _ (hd.keep ho2 (Nodes.nil _) (by simp))
  rintro v w' ⟨rfl, ho⟩; replace hs := hs.call0 ho
  cases hq : d.red
  · repeat' (first | refine vs (k := ?_) | refine ps (k := ?_) | (refine st hs (k := ?_); intro w hs) | (refine stA hs (k := ?_); intro w hs) | (refine al hs (k := ?_); intro b w hz hs) | (refine bx hs (k := ?_); intro b w hz hs) | (refine bs hs (k := ?_); intro b w hz hs) | refine XS.nil ?_ | refine then_of ?_ | refine xc_seq ?_ | (refine xc_region ?_ ?_; exact rfl) | refine xc_block ?_ | refine block_normal ?_ | refine xc_ret ?_ | refine then_ret ?_ | refine block_ret ?_ | refine xc_skip ?_ | refine xc_exit ?_ | refine then_exit ?_ | refine loopS_exit ?_ | refine loopS_ret ?_ | refine cutB_ret ?_ | refine cutN_ret ?_ | refine cutN_exit ?_ | refine block_exit ?_ | (refine block_other ?_ ?_; exact rfl) | (refine xc_true ?_ ?_; exact rfl) | (refine xc_false ?_ ?_; exact rfl) | ((with_reducible apply xs_guard); exact rfl; exact rfl; intro c hc; (fail_if_success (have : true = c := hc)); (fail_if_success (have : false = c := hc)); cases c) | (refine xc_if rfl (fun hc => ?_) (fun hc => ?_)) | (refine xc_cond rfl (fun hc => ?_) (fun hc => ?_)))
    first | refine rt (hq := ?_) | refine rt' (hq := ?_)
    have ho2 : Only [] w1 _ := hs.onlyF [] (by simp [hm, hu]) (by simp [D0])
    have e1 : RB.redLeft (.node (.node a x b c1) y (.node d z e c2) c) = .node (.node a x b !c1) y (.node d z e !c2) !c := by
      simp [RB.redLeft, RB.flip, RB.right_node, RB.left_node, hq]
    rw [e1]
    exact ⟨_, _, rfl, TreeAt.keep ho2 (Nodes.nil _) ⟨m, av, pl, _, fl, _, rfl, rfl, hm, hav, hl, hr0⟩ (by simp), hnd, fun k hk => .inl hk, ho1.step ho2 (by simp)⟩
  · obtain ⟨da, v, de, rfl⟩ := RB.red_true hq
    have e1 : RB.redLeft (.node (.node a x b c1) y (.node (.node da v de true) z e c2) c) = .node (.node (.node a x b !c1) y da (!true)) v (.node de z e (!true)) (!!c) := by
      simp [RB.redLeft, RB.flip, RB.right_node, RB.left_node, RB.red_node, RB.setR, RB.toRight, RB.toLeft]
    rw [e1]
    repeat' (first | refine vs (k := ?_) | refine ps (k := ?_) | (refine st hs (k := ?_); intro w hs) | (refine stA hs (k := ?_); intro w hs) | (refine al hs (k := ?_); intro b w hz hs) | (refine bx hs (k := ?_); intro b w hz hs) | (refine bs hs (k := ?_); intro b w hz hs) | refine XS.nil ?_ | refine then_of ?_ | refine xc_seq ?_ | (refine xc_region ?_ ?_; exact rfl) | refine xc_block ?_ | refine block_normal ?_ | refine xc_ret ?_ | refine then_ret ?_ | refine block_ret ?_ | refine xc_skip ?_ | refine xc_exit ?_ | refine then_exit ?_ | refine loopS_exit ?_ | refine loopS_ret ?_ | refine cutB_ret ?_ | refine cutN_ret ?_ | refine cutN_exit ?_ | refine block_exit ?_ | (refine block_other ?_ ?_; exact rfl) | (refine xc_true ?_ ?_; exact rfl) | (refine xc_false ?_ ?_; exact rfl) | ((with_reducible apply xs_guard); exact rfl; exact rfl; intro c hc; (fail_if_success (have : true = c := hc)); (fail_if_success (have : false = c := hc)); cases c) | (refine xc_if rfl (fun hc => ?_) (fun hc => ?_)) | (refine xc_cond rfl (fun hc => ?_) (fun hc => ?_)))
    have ho2 : Only [] w1 _ := hs.onlyF [] (by simp [hm, hu]) (by simp [D0])
    have hl2 := hl.keep ho2 (Nodes.nil _) (by simp)
    have hr2 := hr0.keep ho2 (Nodes.nil _) (by simp)
    have hm2 := hs.get (At.tail At.head)
    have hT2 := head_keep hT1 ho2 (Nodes.nil _)
    have hO2 : Only (m :: (fl ++ (u :: (fd ++ fe)))) w0 _ := ho1.step ho2 (by simp)
    simp only [RB.list, List.length_append, List.length_cons, List.append_assoc, List.cons_append] at hlen
    (with_reducible apply xs_call); exact rfl; exact rfl; exact toRight_ret tb p0 n0 da v de z e (!c2) true _ _ _ hT2 hr2.stale (by simp only [List.nodup_cons, List.nodup_append] at hnd ⊢; exact hnd.2.2.1) (by simp only [List.length_append, List.length_cons]; omega)
    rintro v' w2 hk
    obtain ⟨p', hv⟩ : ∃ p', v' = .pointer p' := by obtain ⟨p', _, hv, _⟩ := hk; exact ⟨p', hv⟩
    subst hv
    obtain ⟨_, _, _, _, _, _, k4⟩ := id hk
    have hT3 := head_keep hT2 k4 hr2.nodes
    have hm3 := k4.block hm2 (fun h => by simp only [List.nodup_cons, List.mem_append] at hnd; exact hnd.1 (.inr h))
    clear hs
    have hs := (St.nil w2).track hm3 (by simp)
    repeat' (first | refine vs (k := ?_) | refine ps (k := ?_) | (refine st hs (k := ?_); intro w hs) | (refine stA hs (k := ?_); intro w hs) | (refine al hs (k := ?_); intro b w hz hs) | (refine bx hs (k := ?_); intro b w hz hs) | (refine bs hs (k := ?_); intro b w hz hs) | refine XS.nil ?_ | refine then_of ?_ | refine xc_seq ?_ | (refine xc_region ?_ ?_; exact rfl) | refine xc_block ?_ | refine block_normal ?_ | refine xc_ret ?_ | refine then_ret ?_ | refine block_ret ?_ | refine xc_skip ?_ | refine xc_exit ?_ | refine then_exit ?_ | refine loopS_exit ?_ | refine loopS_ret ?_ | refine cutB_ret ?_ | refine cutN_ret ?_ | refine cutN_exit ?_ | refine block_exit ?_ | (refine block_other ?_ ?_; exact rfl) | (refine xc_true ?_ ?_; exact rfl) | (refine xc_false ?_ ?_; exact rfl) | ((with_reducible apply xs_guard); exact rfl; exact rfl; intro c hc; (fail_if_success (have : true = c := hc)); (fail_if_success (have : false = c := hc)); cases c) | (refine xc_if rfl (fun hc => ?_) (fun hc => ?_)) | (refine xc_cond rfl (fun hc => ?_) (fun hc => ?_)))
    have ho3 : Only [m] w2 _ := hs.onlyF [m] (by simp) (by simp [D0])
    obtain ⟨fp2, s1, s2, s3, s4⟩ := graftR hm2 hl2 hr2.nodes hnd hk ho3 (hs.get At.head)
    have hsz := hO2.size
    have s3' := sub_up (fp := m :: (fl ++ (u :: (fd ++ fe)))) (fun k hk => .inl hk) s3 hsz
    have hO3 : Only (m :: (fl ++ (u :: (fd ++ fe)))) w0 _ := hO2.step s4 (fun k hk => .inl hk)
    have hT4 := head_keep hT3 ho3 (Nodes.cons hm3 (Nodes.nil _))
    clear hs
    have hs := St.nil w2
    (with_reducible apply xs_call); exact rfl; exact rfl; exact toLeft_ret tb p0 n0 (.node a x b !c1) y da v (.node de z e true) (!c) (!c2) _ fp2 _ hT4 s1 s2 (by simp only [RB.list, List.length_append, List.length_cons]; omega)
    rintro v' w4 ⟨p3, fp3, rfl, k1, k2, k3, k5⟩
    have hT5 := head_keep hT4 k5 s1.nodes
    have k3' := sub_up s3' k3 hO3.size
    have hO4 := hO3.step k5 s3'
    clear hs
    have hs := St.nil w4
    repeat' (first | refine vs (k := ?_) | refine ps (k := ?_) | (refine st hs (k := ?_); intro w hs) | (refine stA hs (k := ?_); intro w hs) | (refine al hs (k := ?_); intro b w hz hs) | (refine bx hs (k := ?_); intro b w hz hs) | (refine bs hs (k := ?_); intro b w hz hs) | refine XS.nil ?_ | refine then_of ?_ | refine xc_seq ?_ | (refine xc_region ?_ ?_; exact rfl) | refine xc_block ?_ | refine block_normal ?_ | refine xc_ret ?_ | refine then_ret ?_ | refine block_ret ?_ | refine xc_skip ?_ | refine xc_exit ?_ | refine then_exit ?_ | refine loopS_exit ?_ | refine loopS_ret ?_ | refine cutB_ret ?_ | refine cutN_ret ?_ | refine cutN_exit ?_ | refine block_exit ?_ | (refine block_other ?_ ?_; exact rfl) | (refine xc_true ?_ ?_; exact rfl) | (refine xc_false ?_ ?_; exact rfl) | ((with_reducible apply xs_guard); exact rfl; exact rfl; intro c hc; (fail_if_success (have : true = c := hc)); (fail_if_success (have : false = c := hc)); cases c) | (refine xc_if rfl (fun hc => ?_) (fun hc => ?_)) | (refine xc_cond rfl (fun hc => ?_) (fun hc => ?_)))
    have ho6 := hs.only0 rfl
    (with_reducible apply xs_call); exact rfl; exact rfl; exact rbFlip_ret (.node a x b !c1) y da true v de z e true (!c) p3 fp3 _ (k1.keep ho6 (Nodes.nil _) (by simp)) k2
    rintro v' w5 ⟨k6, ho7⟩
    have hs := St.nil w5
    repeat' (first | refine vs (k := ?_) | refine ps (k := ?_) | (refine st hs (k := ?_); intro w hs) | (refine stA hs (k := ?_); intro w hs) | (refine al hs (k := ?_); intro b w hz hs) | (refine bx hs (k := ?_); intro b w hz hs) | (refine bs hs (k := ?_); intro b w hz hs) | refine XS.nil ?_ | refine then_of ?_ | refine xc_seq ?_ | (refine xc_region ?_ ?_; exact rfl) | refine xc_block ?_ | refine block_normal ?_ | refine xc_ret ?_ | refine then_ret ?_ | refine block_ret ?_ | refine xc_skip ?_ | refine xc_exit ?_ | refine then_exit ?_ | refine loopS_exit ?_ | refine loopS_ret ?_ | refine cutB_ret ?_ | refine cutN_ret ?_ | refine cutN_exit ?_ | refine block_exit ?_ | (refine block_other ?_ ?_; exact rfl) | (refine xc_true ?_ ?_; exact rfl) | (refine xc_false ?_ ?_; exact rfl) | ((with_reducible apply xs_guard); exact rfl; exact rfl; intro c hc; (fail_if_success (have : true = c := hc)); (fail_if_success (have : false = c := hc)); cases c) | (refine xc_if rfl (fun hc => ?_) (fun hc => ?_)) | (refine xc_cond rfl (fun hc => ?_) (fun hc => ?_)))
    first | refine rt (hq := ?_) | refine rt' (hq := ?_)
    exact ⟨p3, fp3, rfl, k6, k2, k3', (hO4.step ho6 (by simp)).step ho7 k3'⟩
set_option maxHeartbeats 2000000 in
theorem redRight_ret (tb : Nat) (p0 : Option Addr) (n0 : Int) (t : RB Int) (p : Option Addr) (fp : List Nat) (w0 : World) (hT : w0.heap[tb]? = some (treeO p0 n0)) (h : TreeAt w0 t p fp) (hnd : fp.Nodup) (hlen : t.list.length ≤ 1000000) (hb : RB.both t = true) :
    Ret Try.prog 99 #[.pointer (some ⟨tb, 0, none⟩), .pointer p] w0 fun v w' => Turned w0 fp (RB.redRight t) v w' := by
  obtain ⟨a, x, b, c1, y, d, z, e, c2, c, rfl⟩ := both_nodes hb
  clear hb
  have hs := St.nil w0
  refine ret_of_xc Try.func99 (by kernel_rfl) rfl Try.ntmps99 rfl rfl rfl ?_
  repeat' (first | refine vs (k := ?_) | refine ps (k := ?_) | (refine st hs (k := ?_); intro w hs) | (refine stA hs (k := ?_); intro w hs) | (refine al hs (k := ?_); intro b w hz hs) | (refine bx hs (k := ?_); intro b w hz hs) | (refine bs hs (k := ?_); intro b w hz hs) | refine XS.nil ?_ | refine then_of ?_ | refine xc_seq ?_ | (refine xc_region ?_ ?_; exact rfl) | refine xc_block ?_ | refine block_normal ?_ | refine xc_ret ?_ | refine then_ret ?_ | refine block_ret ?_ | refine xc_skip ?_ | refine xc_exit ?_ | refine then_exit ?_ | refine loopS_exit ?_ | refine loopS_ret ?_ | refine cutB_ret ?_ | refine cutN_ret ?_ | refine cutN_exit ?_ | refine block_exit ?_ | (refine block_other ?_ ?_; exact rfl) | (refine xc_true ?_ ?_; exact rfl) | (refine xc_false ?_ ?_; exact rfl) | ((with_reducible apply xs_guard); exact rfl; exact rfl; intro c hc; (fail_if_success (have : true = c := hc)); (fail_if_success (have : false = c := hc)); cases c) | (refine xc_if rfl (fun hc => ?_) (fun hc => ?_)) | (refine xc_cond rfl (fun hc => ?_) (fun hc => ?_)))
  (with_reducible apply xs_call); exact rfl; exact rfl; exact rbFlip_ret a x b c1 y d z e c2 c p fp _ h hnd
  rintro v w1 ⟨k1, ho1⟩
  have hT1 := head_keep hT ho1 h.nodes
  clear hs h
  have k0 := k1
  obtain ⟨m, av, pl, pr, fl, fr, rfl, rfl, hm, hav, hl, hr⟩ := k1
  obtain ⟨u, avu, pd, pe, fd, fe, rfl, rfl, hu, hau, hd, he⟩ := hl
  have hum : u ≠ m := fun e => by subst e; simp at hnd
  have hs := ((St.nil w1).track hm (by simp)).track hu (by simpa using hum)
  repeat' (first | refine vs (k := ?_) | refine ps (k := ?_) | (refine st hs (k := ?_); intro w hs) | (refine stA hs (k := ?_); intro w hs) | (refine al hs (k := ?_); intro b w hz hs) | (refine bx hs (k := ?_); intro b w hz hs) | (refine bs hs (k := ?_); intro b w hz hs) | refine XS.nil ?_ | refine then_of ?_ | refine xc_seq ?_ | (refine xc_region ?_ ?_; exact rfl) | refine xc_block ?_ | refine block_normal ?_ | refine xc_ret ?_ | refine then_ret ?_ | refine block_ret ?_ | refine xc_skip ?_ | refine xc_exit ?_ | refine then_exit ?_ | refine loopS_exit ?_ | refine loopS_ret ?_ | refine cutB_ret ?_ | refine cutN_ret ?_ | refine cutN_exit ?_ | refine block_exit ?_ | (refine block_other ?_ ?_; exact rfl) | (refine xc_true ?_ ?_; exact rfl) | (refine xc_false ?_ ?_; exact rfl) | ((with_reducible apply xs_guard); exact rfl; exact rfl; intro c hc; (fail_if_success (have : true = c := hc)); (fail_if_success (have : false = c := hc)); cases c) | (refine xc_if rfl (fun hc => ?_) (fun hc => ?_)) | (refine xc_cond rfl (fun hc => ?_) (fun hc => ?_)))
  have ho2 : Only [] w1 _ := hs.onlyF [] (by simp [hm, hu]) (by simp [D0])
  (with_reducible apply xs_call); exact rfl; exact rfl; exact isRed_ret a pd fd _ (hd.keep ho2 (Nodes.nil _) (by simp))
  rintro v w' ⟨rfl, ho⟩; replace hs := hs.call0 ho
  cases hq : a.red
  · repeat' (first | refine vs (k := ?_) | refine ps (k := ?_) | (refine st hs (k := ?_); intro w hs) | (refine stA hs (k := ?_); intro w hs) | (refine al hs (k := ?_); intro b w hz hs) | (refine bx hs (k := ?_); intro b w hz hs) | (refine bs hs (k := ?_); intro b w hz hs) | refine XS.nil ?_ | refine then_of ?_ | refine xc_seq ?_ | (refine xc_region ?_ ?_; exact rfl) | refine xc_block ?_ | refine block_normal ?_ | refine xc_ret ?_ | refine then_ret ?_ | refine block_ret ?_ | refine xc_skip ?_ | refine xc_exit ?_ | refine then_exit ?_ | refine loopS_exit ?_ | refine loopS_ret ?_ | refine cutB_ret ?_ | refine cutN_ret ?_ | refine cutN_exit ?_ | refine block_exit ?_ | (refine block_other ?_ ?_; exact rfl) | (refine xc_true ?_ ?_; exact rfl) | (refine xc_false ?_ ?_; exact rfl) | ((with_reducible apply xs_guard); exact rfl; exact rfl; intro c hc; (fail_if_success (have : true = c := hc)); (fail_if_success (have : false = c := hc)); cases c) | (refine xc_if rfl (fun hc => ?_) (fun hc => ?_)) | (refine xc_cond rfl (fun hc => ?_) (fun hc => ?_)))
    first | refine rt (hq := ?_) | refine rt' (hq := ?_)
    have ho2 : Only [] w1 _ := hs.onlyF [] (by simp [hm, hu]) (by simp [D0])
    have e1 : RB.redRight (.node (.node a x b c1) y (.node d z e c2) c) = .node (.node a x b !c1) y (.node d z e !c2) !c := by
      simp [RB.redRight, RB.flip, RB.right_node, RB.left_node, hq]
    rw [e1]
    exact ⟨_, _, rfl, k0.keep ho2 (Nodes.nil _) (by simp), hnd, fun k hk => .inl hk, ho1.step ho2 (by simp)⟩
  · obtain ⟨da, v, de, rfl⟩ := RB.red_true hq
    have e1 : RB.redRight (.node (.node (.node da v de true) x b c1) y (.node d z e c2) c) = .node (.node da v de (!true)) x (.node b y (.node d z e !c2) (!true)) (!!c) := by
      simp [RB.redRight, RB.flip, RB.right_node, RB.left_node, RB.red_node, RB.toRight]
    rw [e1]
    repeat' (first | refine vs (k := ?_) | refine ps (k := ?_) | (refine st hs (k := ?_); intro w hs) | (refine stA hs (k := ?_); intro w hs) | (refine al hs (k := ?_); intro b w hz hs) | (refine bx hs (k := ?_); intro b w hz hs) | (refine bs hs (k := ?_); intro b w hz hs) | refine XS.nil ?_ | refine then_of ?_ | refine xc_seq ?_ | (refine xc_region ?_ ?_; exact rfl) | refine xc_block ?_ | refine block_normal ?_ | refine xc_ret ?_ | refine then_ret ?_ | refine block_ret ?_ | refine xc_skip ?_ | refine xc_exit ?_ | refine then_exit ?_ | refine loopS_exit ?_ | refine loopS_ret ?_ | refine cutB_ret ?_ | refine cutN_ret ?_ | refine cutN_exit ?_ | refine block_exit ?_ | (refine block_other ?_ ?_; exact rfl) | (refine xc_true ?_ ?_; exact rfl) | (refine xc_false ?_ ?_; exact rfl) | ((with_reducible apply xs_guard); exact rfl; exact rfl; intro c hc; (fail_if_success (have : true = c := hc)); (fail_if_success (have : false = c := hc)); cases c) | (refine xc_if rfl (fun hc => ?_) (fun hc => ?_)) | (refine xc_cond rfl (fun hc => ?_) (fun hc => ?_)))
    have ho2 : Only [] w1 _ := hs.onlyF [] (by simp [hm, hu]) (by simp [D0])
    have hT2 := head_keep hT1 ho2 (Nodes.nil _)
    have hO2 : Only (m :: ((u :: (fd ++ fe)) ++ fr)) w0 _ := ho1.step ho2 (by simp)
    simp only [RB.list, List.length_append, List.length_cons, List.append_assoc, List.cons_append] at hlen
    have k00 := k0.keep ho2 (Nodes.nil _) (by simp)
    (with_reducible apply xs_call); exact rfl; exact rfl; exact toRight_ret tb p0 n0 (.node da v de true) x b y (.node d z e !c2) (!c) (!c1) _ _ _ hT2 k00.stale hnd (by simp only [RB.list, List.length_append, List.length_cons]; omega)
    rintro v' w4 ⟨p3, fp3, rfl, k1, k2, k3, k5⟩
    have k3' := sub_up (fun k hk => .inl hk) k3 hO2.size
    have hO4 := hO2.step k5 (fun k hk => .inl hk)
    clear hs
    have hs := St.nil w4
    repeat' (first | refine vs (k := ?_) | refine ps (k := ?_) | (refine st hs (k := ?_); intro w hs) | (refine stA hs (k := ?_); intro w hs) | (refine al hs (k := ?_); intro b w hz hs) | (refine bx hs (k := ?_); intro b w hz hs) | (refine bs hs (k := ?_); intro b w hz hs) | refine XS.nil ?_ | refine then_of ?_ | refine xc_seq ?_ | (refine xc_region ?_ ?_; exact rfl) | refine xc_block ?_ | refine block_normal ?_ | refine xc_ret ?_ | refine then_ret ?_ | refine block_ret ?_ | refine xc_skip ?_ | refine xc_exit ?_ | refine then_exit ?_ | refine loopS_exit ?_ | refine loopS_ret ?_ | refine cutB_ret ?_ | refine cutN_ret ?_ | refine cutN_exit ?_ | refine block_exit ?_ | (refine block_other ?_ ?_; exact rfl) | (refine xc_true ?_ ?_; exact rfl) | (refine xc_false ?_ ?_; exact rfl) | ((with_reducible apply xs_guard); exact rfl; exact rfl; intro c hc; (fail_if_success (have : true = c := hc)); (fail_if_success (have : false = c := hc)); cases c) | (refine xc_if rfl (fun hc => ?_) (fun hc => ?_)) | (refine xc_cond rfl (fun hc => ?_) (fun hc => ?_)))
    have ho6 := hs.only0 rfl
    (with_reducible apply xs_call); exact rfl; exact rfl; exact rbFlip_ret da v de true x b y (.node d z e !c2) true (!c) p3 fp3 _ (k1.keep ho6 (Nodes.nil _) (by simp)) k2
    rintro v' w5 ⟨k6, ho7⟩
    have hs := St.nil w5
    repeat' (first | refine vs (k := ?_) | refine ps (k := ?_) | (refine st hs (k := ?_); intro w hs) | (refine stA hs (k := ?_); intro w hs) | (refine al hs (k := ?_); intro b w hz hs) | (refine bx hs (k := ?_); intro b w hz hs) | (refine bs hs (k := ?_); intro b w hz hs) | refine XS.nil ?_ | refine then_of ?_ | refine xc_seq ?_ | (refine xc_region ?_ ?_; exact rfl) | refine xc_block ?_ | refine block_normal ?_ | refine xc_ret ?_ | refine then_ret ?_ | refine block_ret ?_ | refine xc_skip ?_ | refine xc_exit ?_ | refine then_exit ?_ | refine loopS_exit ?_ | refine loopS_ret ?_ | refine cutB_ret ?_ | refine cutN_ret ?_ | refine cutN_exit ?_ | refine block_exit ?_ | (refine block_other ?_ ?_; exact rfl) | (refine xc_true ?_ ?_; exact rfl) | (refine xc_false ?_ ?_; exact rfl) | ((with_reducible apply xs_guard); exact rfl; exact rfl; intro c hc; (fail_if_success (have : true = c := hc)); (fail_if_success (have : false = c := hc)); cases c) | (refine xc_if rfl (fun hc => ?_) (fun hc => ?_)) | (refine xc_cond rfl (fun hc => ?_) (fun hc => ?_)))
    first | refine rt (hq := ?_) | refine rt' (hq := ?_)
    exact ⟨p3, fp3, rfl, k6, k2, k3', (hO4.step ho6 (by simp)).step ho7 k3'⟩
end Go.Proofs.YtjooegonmdmajaaX
