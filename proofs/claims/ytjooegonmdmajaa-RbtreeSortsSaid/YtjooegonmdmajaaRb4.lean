/- rbtree: mend. -/
import Derived.Test.YtjooegonmdmajaaRb3
set_option linter.unusedVariables false
set_option linter.unusedSimpArgs false
set_option maxRecDepth 100000
namespace Go.Proofs.YtjooegonmdmajaaX
open Go Go.RowKit
attribute [local irreducible] XS XC XA thenE blockE retE loopE loopS cutB cutN doneE SE
/-- A tree in the place of one that was there; the head. -/
structure Has (w0 : World) (tb : Nat) (p0 : Option Addr) (n0 : Int) (fp : List Nat) (t : RB Int) (p : Option Addr) (w : World) : Prop where
  tree : ∃ fp', TreeAt w t p fp' ∧ fp'.Nodup ∧ (∀ k ∈ fp', k ∈ fp ∨ w0.heap.size ≤ k) ∧ Only fp w0 w
  head : w.heap[tb]? = some (treeO p0 n0)
theorem Has.only {w0 w w' : World} {tb : Nat} {p0 : Option Addr} {n0 : Int} {fp : List Nat} {t : RB Int} {p : Option Addr} (h : Has w0 tb p0 n0 fp t p w) (ho : Only [] w w') : Has w0 tb p0 n0 fp t p w' := by
  obtain ⟨⟨fp', h1, h2, h3, h4⟩, h5⟩ := h
  exact ⟨⟨fp', h1.keep ho (Nodes.nil w) (fun k _ => by simp), h2, h3, h4.step ho (by simp)⟩, head_keep h5 ho (Nodes.nil w)⟩
/-- What a call made of the tree. -/
theorem Has.next {w0 w w' : World} {tb : Nat} {p0 : Option Addr} {n0 : Int} {fp fp1 : List Nat} {t t' : RB Int} {p : Option Addr} {v : Value} (h1 : TreeAt w t p fp1) (h2 : ∀ k ∈ fp1, k ∈ fp ∨ w0.heap.size ≤ k) (h3 : Only fp w0 w) (h4 : w.heap[tb]? = some (treeO p0 n0)) (k : Turned w fp1 t' v w') :
    ∃ p', v = .pointer p' ∧ Has w0 tb p0 n0 fp t' p' w' := by
  obtain ⟨p', fp', rfl, k1, k2, k3, k4⟩ := k
  refine ⟨p', rfl, ⟨fp', k1, k2, fun i hi => ?_, h3.step k4 h2⟩, head_keep h4 k4 h1.nodes⟩
  have := h3.size
  rcases k3 i hi with h | h
  · exact h2 i h
  · exact .inr (by omega)
theorem mend1_node (l : RB Int) (x : Int) (r : RB Int) (c : Bool) : ∃ l' x' r' c', RB.mend1 (.node l x r c) = .node l' x' r' c' := by
  unfold RB.mend1
  cases r with
  | nil => exact ⟨_, _, _, _, rfl⟩
  | node rl y rr d =>
    cases d <;> cases h : l.red <;> simp only [RB.right_node, RB.left_node, RB.red_node, h, Bool.not_true, Bool.not_false, Bool.and_true, Bool.and_false, Bool.and_self, cond_true, cond_false, RB.toLeft] <;> exact ⟨_, _, _, _, rfl⟩
theorem mend2_node (l : RB Int) (x : Int) (r : RB Int) (c : Bool) : ∃ l' x' r' c', RB.mend2 (.node l x r c) = .node l' x' r' c' := by
  unfold RB.mend2
  cases l with
  | nil => exact ⟨_, _, _, _, rfl⟩
  | node rl y rr d =>
    cases d <;> cases h : rl.red <;> simp only [RB.right_node, RB.left_node, RB.red_node, h, Bool.not_true, Bool.not_false, Bool.and_true, Bool.and_false, Bool.and_self, cond_true, cond_false, RB.toRight] <;> exact ⟨_, _, _, _, rfl⟩
set_option maxHeartbeats 2000000 in
theorem mend_ret (tb : Nat) (p0 : Option Addr) (n0 : Int) (l : RB Int) (x : Int) (r : RB Int) (c : Bool) (p : Option Addr) (fp : List Nat) (w0 : World) (hT : w0.heap[tb]? = some (treeO p0 n0)) (h : StaleAt w0 l x r c p fp) (hnd : fp.Nodup) (hlen : (l.list ++ x :: r.list).length ≤ 1000000) :
    Ret Try.prog 95 #[.pointer (some ⟨tb, 0, none⟩), .pointer p] w0 fun v w' => Turned w0 fp (RB.mend (.node l x r c)) v w' := by
  have hs := St.nil w0
  refine ret_of_xc Try.func95 (by kernel_rfl) rfl Try.ntmps95 rfl rfl rfl ?_
  repeat' (first | refine vs (k := ?_) | refine ps (k := ?_) | (refine st hs (k := ?_); intro w hs) | (refine stA hs (k := ?_); intro w hs) | (refine al hs (k := ?_); intro b w hz hs) | (refine bx hs (k := ?_); intro b w hz hs) | (refine bs hs (k := ?_); intro b w hz hs) | refine XS.nil ?_ | refine then_of ?_ | refine xc_seq ?_ | (refine xc_region ?_ ?_; exact rfl) | refine xc_block ?_ | refine block_normal ?_ | refine xc_ret ?_ | refine then_ret ?_ | refine block_ret ?_ | refine xc_skip ?_ | refine xc_exit ?_ | refine then_exit ?_ | refine loopS_exit ?_ | refine loopS_ret ?_ | refine cutB_ret ?_ | refine cutN_ret ?_ | refine cutN_exit ?_ | refine block_exit ?_ | (refine block_other ?_ ?_; exact rfl) | (refine xc_true ?_ ?_; exact rfl) | (refine xc_false ?_ ?_; exact rfl) | ((with_reducible apply xs_guard); exact rfl; exact rfl; intro c hc; (fail_if_success (have : true = c := hc)); (fail_if_success (have : false = c := hc)); cases c) | (refine xc_if rfl (fun hc => ?_) (fun hc => ?_)) | (refine xc_cond rfl (fun hc => ?_) (fun hc => ?_)))
  clear hs
  (with_reducible apply xs_call); exact rfl; exact rfl; exact rbSum_ret tb p0 n0 l x r c _ _ _ hT h hnd hlen
  rintro v w1 ⟨hT1, ho1⟩
  have hH : Has w0 tb p0 n0 fp (.node l x r c) p w1 := ⟨⟨fp, hT1, hnd, fun k hk => .inl hk, ho1⟩, head_keep hT ho1 h.nodes⟩
  clear hT1 ho1
  refine XS.nil ?_
  refine then_of ?_
  refine xc_seq ?_
  refine xc_seq ?_
  -- does a red one stand to the right alone?
  refine xc_cutN (fun _ : Unit => [(0, .pointer (some ⟨tb, 0, none⟩)), (1, .pointer p), (4, .pointer none), (20, .bool (r.red && !l.red))]) (fun _ w => Has w0 tb p0 n0 fp (.node l x r c) p w) ?_ ?_
  · obtain ⟨⟨fp1, ⟨b, av, pl, pr, fl, fr, rfl, rfl, hb, hav, hl, hr⟩, hnd1, hsub, ho⟩, hd⟩ := hH
    have hH : Has w0 tb p0 n0 fp (.node l x r c) (some ⟨b, 0, none⟩) w1 := ⟨⟨_, ⟨b, av, pl, pr, fl, fr, rfl, rfl, hb, hav, hl, hr⟩, hnd1, hsub, ho⟩, hd⟩
    have hs := (St.nil w1).track hb (by simp)
    repeat' (first | refine vs (k := ?_) | refine ps (k := ?_) | (refine st hs (k := ?_); intro w hs) | (refine stA hs (k := ?_); intro w hs) | (refine al hs (k := ?_); intro b w hz hs) | (refine bx hs (k := ?_); intro b w hz hs) | (refine bs hs (k := ?_); intro b w hz hs) | refine XS.nil ?_ | refine then_of ?_ | refine xc_seq ?_ | (refine xc_region ?_ ?_; exact rfl) | refine xc_block ?_ | refine block_normal ?_ | refine xc_ret ?_ | refine then_ret ?_ | refine block_ret ?_ | refine xc_skip ?_ | refine xc_exit ?_ | refine then_exit ?_ | refine loopS_exit ?_ | refine loopS_ret ?_ | refine cutB_ret ?_ | refine cutN_ret ?_ | refine cutN_exit ?_ | refine block_exit ?_ | (refine block_other ?_ ?_; exact rfl) | (refine xc_true ?_ ?_; exact rfl) | (refine xc_false ?_ ?_; exact rfl) | ((with_reducible apply xs_guard); exact rfl; exact rfl; intro c hc; (fail_if_success (have : true = c := hc)); (fail_if_success (have : false = c := hc)); cases c) | (refine xc_if rfl (fun hc => ?_) (fun hc => ?_)) | (refine xc_cond rfl (fun hc => ?_) (fun hc => ?_)))
    have ho2 : Only [] w1 _ := hs.onlyF [] (by simp [hb]) (by simp [D0])
    (with_reducible apply xs_call); exact rfl; exact rfl; exact isRed_ret r pr fr _ (hr.keep ho2 (Nodes.nil _) (by simp))
    rintro v w' ⟨rfl, ho⟩; replace hs := hs.call0 ho
    generalize hq : r.red = q
    cases q
    · repeat' (first | refine vs (k := ?_) | refine ps (k := ?_) | (refine st hs (k := ?_); intro w hs) | (refine stA hs (k := ?_); intro w hs) | (refine al hs (k := ?_); intro b w hz hs) | (refine bx hs (k := ?_); intro b w hz hs) | (refine bs hs (k := ?_); intro b w hz hs) | refine XS.nil ?_ | refine then_of ?_ | refine xc_seq ?_ | (refine xc_region ?_ ?_; exact rfl) | refine xc_block ?_ | refine block_normal ?_ | refine xc_ret ?_ | refine then_ret ?_ | refine block_ret ?_ | refine xc_skip ?_ | refine xc_exit ?_ | refine then_exit ?_ | refine loopS_exit ?_ | refine loopS_ret ?_ | refine cutB_ret ?_ | refine cutN_ret ?_ | refine cutN_exit ?_ | refine block_exit ?_ | (refine block_other ?_ ?_; exact rfl) | (refine xc_true ?_ ?_; exact rfl) | (refine xc_false ?_ ?_; exact rfl) | ((with_reducible apply xs_guard); exact rfl; exact rfl; intro c hc; (fail_if_success (have : true = c := hc)); (fail_if_success (have : false = c := hc)); cases c) | (refine xc_if rfl (fun hc => ?_) (fun hc => ?_)) | (refine xc_cond rfl (fun hc => ?_) (fun hc => ?_)))
      exact cutN_normal () (by (repeat (first | exact agree_nil | (apply agree_cons; exact rfl)))) (hH.only (hs.onlyF [] (by simp [hb]) (by simp [D0])))
    · repeat' (first | refine vs (k := ?_) | refine ps (k := ?_) | (refine st hs (k := ?_); intro w hs) | (refine stA hs (k := ?_); intro w hs) | (refine al hs (k := ?_); intro b w hz hs) | (refine bx hs (k := ?_); intro b w hz hs) | (refine bs hs (k := ?_); intro b w hz hs) | refine XS.nil ?_ | refine then_of ?_ | refine xc_seq ?_ | (refine xc_region ?_ ?_; exact rfl) | refine xc_block ?_ | refine block_normal ?_ | refine xc_ret ?_ | refine then_ret ?_ | refine block_ret ?_ | refine xc_skip ?_ | refine xc_exit ?_ | refine then_exit ?_ | refine loopS_exit ?_ | refine loopS_ret ?_ | refine cutB_ret ?_ | refine cutN_ret ?_ | refine cutN_exit ?_ | refine block_exit ?_ | (refine block_other ?_ ?_; exact rfl) | (refine xc_true ?_ ?_; exact rfl) | (refine xc_false ?_ ?_; exact rfl) | ((with_reducible apply xs_guard); exact rfl; exact rfl; intro c hc; (fail_if_success (have : true = c := hc)); (fail_if_success (have : false = c := hc)); cases c) | (refine xc_if rfl (fun hc => ?_) (fun hc => ?_)) | (refine xc_cond rfl (fun hc => ?_) (fun hc => ?_)))
      have ho2 : Only [] w1 _ := hs.onlyF [] (by simp [hb]) (by simp [D0])
      (with_reducible apply xs_call); exact rfl; exact rfl; exact isRed_ret l pl fl _ (hl.keep ho2 (Nodes.nil _) (by simp))
      rintro v w' ⟨rfl, ho⟩; replace hs := hs.call0 ho
      generalize hq2 : l.red = q2
      repeat' (first | refine vs (k := ?_) | refine ps (k := ?_) | (refine st hs (k := ?_); intro w hs) | (refine stA hs (k := ?_); intro w hs) | (refine al hs (k := ?_); intro b w hz hs) | (refine bx hs (k := ?_); intro b w hz hs) | (refine bs hs (k := ?_); intro b w hz hs) | refine XS.nil ?_ | refine then_of ?_ | refine xc_seq ?_ | (refine xc_region ?_ ?_; exact rfl) | refine xc_block ?_ | refine block_normal ?_ | refine xc_ret ?_ | refine then_ret ?_ | refine block_ret ?_ | refine xc_skip ?_ | refine xc_exit ?_ | refine then_exit ?_ | refine loopS_exit ?_ | refine loopS_ret ?_ | refine cutB_ret ?_ | refine cutN_ret ?_ | refine cutN_exit ?_ | refine block_exit ?_ | (refine block_other ?_ ?_; exact rfl) | (refine xc_true ?_ ?_; exact rfl) | (refine xc_false ?_ ?_; exact rfl) | ((with_reducible apply xs_guard); exact rfl; exact rfl; intro c hc; (fail_if_success (have : true = c := hc)); (fail_if_success (have : false = c := hc)); cases c) | (refine xc_if rfl (fun hc => ?_) (fun hc => ?_)) | (refine xc_cond rfl (fun hc => ?_) (fun hc => ?_)))
      exact cutN_normal () (by (repeat (first | exact agree_nil | (apply agree_cons; exact rfl)))) (hH.only (hs.onlyF [] (by simp [hb]) (by simp [D0])))
  clear hH
  rintro _ env w hH
  refine xc_cutN (fun s : Option Addr => [(0, .pointer (some ⟨tb, 0, none⟩)), (1, .pointer s), (4, .pointer none)]) (fun s w => Has w0 tb p0 n0 fp (RB.mend1 (.node l x r c)) s w) ?_ ?_
  · generalize hq : (r.red && !l.red) = q
    cases q
    · repeat' (first | refine vs (k := ?_) | refine ps (k := ?_) | (refine st hs (k := ?_); intro w hs) | (refine stA hs (k := ?_); intro w hs) | (refine al hs (k := ?_); intro b w hz hs) | (refine bx hs (k := ?_); intro b w hz hs) | (refine bs hs (k := ?_); intro b w hz hs) | refine XS.nil ?_ | refine then_of ?_ | refine xc_seq ?_ | (refine xc_region ?_ ?_; exact rfl) | refine xc_block ?_ | refine block_normal ?_ | refine xc_ret ?_ | refine then_ret ?_ | refine block_ret ?_ | refine xc_skip ?_ | refine xc_exit ?_ | refine then_exit ?_ | refine loopS_exit ?_ | refine loopS_ret ?_ | refine cutB_ret ?_ | refine cutN_ret ?_ | refine cutN_exit ?_ | refine block_exit ?_ | (refine block_other ?_ ?_; exact rfl) | (refine xc_true ?_ ?_; exact rfl) | (refine xc_false ?_ ?_; exact rfl) | ((with_reducible apply xs_guard); exact rfl; exact rfl; intro c hc; (fail_if_success (have : true = c := hc)); (fail_if_success (have : false = c := hc)); cases c) | (refine xc_if rfl (fun hc => ?_) (fun hc => ?_)) | (refine xc_cond rfl (fun hc => ?_) (fun hc => ?_)))
      refine cutN_normal p (by (repeat (first | exact agree_nil | (apply agree_cons; exact rfl)))) ?_
      unfold RB.mend1
      rw [RB.right_node, RB.left_node, hq]
      exact hH
    · obtain ⟨⟨fp1, h1, h2, h3, h4⟩, h5⟩ := hH
      simp only [Bool.and_eq_true, Bool.not_eq_true'] at hq
      obtain ⟨rl, y, rr, rfl⟩ := RB.red_true hq.1
      have hs := St.nil w
      repeat' (first | refine vs (k := ?_) | refine ps (k := ?_) | (refine st hs (k := ?_); intro w hs) | (refine stA hs (k := ?_); intro w hs) | (refine al hs (k := ?_); intro b w hz hs) | (refine bx hs (k := ?_); intro b w hz hs) | (refine bs hs (k := ?_); intro b w hz hs) | refine XS.nil ?_ | refine then_of ?_ | refine xc_seq ?_ | (refine xc_region ?_ ?_; exact rfl) | refine xc_block ?_ | refine block_normal ?_ | refine xc_ret ?_ | refine then_ret ?_ | refine block_ret ?_ | refine xc_skip ?_ | refine xc_exit ?_ | refine then_exit ?_ | refine loopS_exit ?_ | refine loopS_ret ?_ | refine cutB_ret ?_ | refine cutN_ret ?_ | refine cutN_exit ?_ | refine block_exit ?_ | (refine block_other ?_ ?_; exact rfl) | (refine xc_true ?_ ?_; exact rfl) | (refine xc_false ?_ ?_; exact rfl) | ((with_reducible apply xs_guard); exact rfl; exact rfl; intro c hc; (fail_if_success (have : true = c := hc)); (fail_if_success (have : false = c := hc)); cases c) | (refine xc_if rfl (fun hc => ?_) (fun hc => ?_)) | (refine xc_cond rfl (fun hc => ?_) (fun hc => ?_)))
      (with_reducible apply xs_call); exact rfl; exact rfl; exact toLeft_ret tb p0 n0 l x rl y rr c true _ _ _ h5 h1.stale h2 hlen
      rintro v w' hv
      obtain ⟨p', rfl, hH⟩ := Has.next h1 h3 h4 h5 hv
      have hs := St.nil w'
      repeat' (first | refine vs (k := ?_) | refine ps (k := ?_) | (refine st hs (k := ?_); intro w hs) | (refine stA hs (k := ?_); intro w hs) | (refine al hs (k := ?_); intro b w hz hs) | (refine bx hs (k := ?_); intro b w hz hs) | (refine bs hs (k := ?_); intro b w hz hs) | refine XS.nil ?_ | refine then_of ?_ | refine xc_seq ?_ | (refine xc_region ?_ ?_; exact rfl) | refine xc_block ?_ | refine block_normal ?_ | refine xc_ret ?_ | refine then_ret ?_ | refine block_ret ?_ | refine xc_skip ?_ | refine xc_exit ?_ | refine then_exit ?_ | refine loopS_exit ?_ | refine loopS_ret ?_ | refine cutB_ret ?_ | refine cutN_ret ?_ | refine cutN_exit ?_ | refine block_exit ?_ | (refine block_other ?_ ?_; exact rfl) | (refine xc_true ?_ ?_; exact rfl) | (refine xc_false ?_ ?_; exact rfl) | ((with_reducible apply xs_guard); exact rfl; exact rfl; intro c hc; (fail_if_success (have : true = c := hc)); (fail_if_success (have : false = c := hc)); cases c) | (refine xc_if rfl (fun hc => ?_) (fun hc => ?_)) | (refine xc_cond rfl (fun hc => ?_) (fun hc => ?_)))
      refine cutN_normal p' (by (repeat (first | exact agree_nil | (apply agree_cons; exact rfl)))) ?_
      unfold RB.mend1
      rw [RB.right_node, RB.left_node, RB.red_node, hq.2]
      exact hH
  obtain ⟨l1, x1, r1, c1, e1⟩ := mend1_node l x r c
  have hlen1 : (l1.list ++ x1 :: r1.list).length ≤ 1000000 := by
    have h1 : (RB.mend1 (.node l x r c)).list = l.list ++ x :: r.list := by
      unfold RB.mend1
      cases (RB.red _ && _) <;> simp only [cond_true, cond_false, RB.list_toLeft, RB.list]
    rw [e1] at h1
    rw [← h1] at hlen
    exact hlen
  rintro p1 env w hH
  rw [e1] at hH
  refine xc_seq ?_
  refine xc_seq ?_
  refine xc_cutN (fun _ : Unit => [(0, .pointer (some ⟨tb, 0, none⟩)), (1, .pointer p1), (4, .pointer none), (38, .bool (l1.red && l1.left.red))]) (fun _ w => Has w0 tb p0 n0 fp (.node l1 x1 r1 c1) p1 w) ?_ ?_
  · obtain ⟨⟨fp1, ⟨b, av, pl, pr, fl, fr, rfl, rfl, hb, hav, hl, hr⟩, hnd1, hsub, ho⟩, hd⟩ := hH
    have hH : Has w0 tb p0 n0 fp (.node l1 x1 r1 c1) (some ⟨b, 0, none⟩) w := ⟨⟨_, ⟨b, av, pl, pr, fl, fr, rfl, rfl, hb, hav, hl, hr⟩, hnd1, hsub, ho⟩, hd⟩
    cases hq : l1.red
    · have hs := (St.nil w).track hb (by simp)
      repeat' (first | refine vs (k := ?_) | refine ps (k := ?_) | (refine st hs (k := ?_); intro w hs) | (refine stA hs (k := ?_); intro w hs) | (refine al hs (k := ?_); intro b w hz hs) | (refine bx hs (k := ?_); intro b w hz hs) | (refine bs hs (k := ?_); intro b w hz hs) | refine XS.nil ?_ | refine then_of ?_ | refine xc_seq ?_ | (refine xc_region ?_ ?_; exact rfl) | refine xc_block ?_ | refine block_normal ?_ | refine xc_ret ?_ | refine then_ret ?_ | refine block_ret ?_ | refine xc_skip ?_ | refine xc_exit ?_ | refine then_exit ?_ | refine loopS_exit ?_ | refine loopS_ret ?_ | refine cutB_ret ?_ | refine cutN_ret ?_ | refine cutN_exit ?_ | refine block_exit ?_ | (refine block_other ?_ ?_; exact rfl) | (refine xc_true ?_ ?_; exact rfl) | (refine xc_false ?_ ?_; exact rfl) | ((with_reducible apply xs_guard); exact rfl; exact rfl; intro c hc; (fail_if_success (have : true = c := hc)); (fail_if_success (have : false = c := hc)); cases c) | (refine xc_if rfl (fun hc => ?_) (fun hc => ?_)) | (refine xc_cond rfl (fun hc => ?_) (fun hc => ?_)))
      have ho2 : Only [] w _ := hs.onlyF [] (by simp [hb]) (by simp [D0])
      (with_reducible apply xs_call); exact rfl; exact rfl; exact isRed_ret l1 pl fl _ (hl.keep ho2 (Nodes.nil _) (by simp))
      rintro v w' ⟨rfl, ho⟩; replace hs := hs.call0 ho
      rw [hq]
      repeat' (first | refine vs (k := ?_) | refine ps (k := ?_) | (refine st hs (k := ?_); intro w hs) | (refine stA hs (k := ?_); intro w hs) | (refine al hs (k := ?_); intro b w hz hs) | (refine bx hs (k := ?_); intro b w hz hs) | (refine bs hs (k := ?_); intro b w hz hs) | refine XS.nil ?_ | refine then_of ?_ | refine xc_seq ?_ | (refine xc_region ?_ ?_; exact rfl) | refine xc_block ?_ | refine block_normal ?_ | refine xc_ret ?_ | refine then_ret ?_ | refine block_ret ?_ | refine xc_skip ?_ | refine xc_exit ?_ | refine then_exit ?_ | refine loopS_exit ?_ | refine loopS_ret ?_ | refine cutB_ret ?_ | refine cutN_ret ?_ | refine cutN_exit ?_ | refine block_exit ?_ | (refine block_other ?_ ?_; exact rfl) | (refine xc_true ?_ ?_; exact rfl) | (refine xc_false ?_ ?_; exact rfl) | ((with_reducible apply xs_guard); exact rfl; exact rfl; intro c hc; (fail_if_success (have : true = c := hc)); (fail_if_success (have : false = c := hc)); cases c) | (refine xc_if rfl (fun hc => ?_) (fun hc => ?_)) | (refine xc_cond rfl (fun hc => ?_) (fun hc => ?_)))
      exact cutN_normal () (by (repeat (first | exact agree_nil | (apply agree_cons; exact rfl)))) (hH.only (hs.onlyF [] (by simp [hb]) (by simp [D0])))
    · obtain ⟨ll, y, lr, rfl⟩ := RB.red_true hq
      have hl0 := hl
      obtain ⟨u, avu, pll, plr, fll, flr, rfl, rfl, hu, hau, hll, hlr⟩ := hl
      have hub : u ≠ b := fun e => by
        subst e
        simp at hnd1
      have hs := ((St.nil w).track hb (by simp)).track hu (by simpa using hub)
      repeat' (first | refine vs (k := ?_) | refine ps (k := ?_) | (refine st hs (k := ?_); intro w hs) | (refine stA hs (k := ?_); intro w hs) | (refine al hs (k := ?_); intro b w hz hs) | (refine bx hs (k := ?_); intro b w hz hs) | (refine bs hs (k := ?_); intro b w hz hs) | refine XS.nil ?_ | refine then_of ?_ | refine xc_seq ?_ | (refine xc_region ?_ ?_; exact rfl) | refine xc_block ?_ | refine block_normal ?_ | refine xc_ret ?_ | refine then_ret ?_ | refine block_ret ?_ | refine xc_skip ?_ | refine xc_exit ?_ | refine then_exit ?_ | refine loopS_exit ?_ | refine loopS_ret ?_ | refine cutB_ret ?_ | refine cutN_ret ?_ | refine cutN_exit ?_ | refine block_exit ?_ | (refine block_other ?_ ?_; exact rfl) | (refine xc_true ?_ ?_; exact rfl) | (refine xc_false ?_ ?_; exact rfl) | ((with_reducible apply xs_guard); exact rfl; exact rfl; intro c hc; (fail_if_success (have : true = c := hc)); (fail_if_success (have : false = c := hc)); cases c) | (refine xc_if rfl (fun hc => ?_) (fun hc => ?_)) | (refine xc_cond rfl (fun hc => ?_) (fun hc => ?_)))
      have ho2 : Only [] w _ := hs.onlyF [] (by simp [hb, hu]) (by simp [D0])
      (with_reducible apply xs_call); exact rfl; exact rfl; exact isRed_ret _ _ _ _ (hl0.keep ho2 (Nodes.nil _) (by simp))
      rintro v w' ⟨rfl, ho⟩; replace hs := hs.call0 ho
      rw [hq]
      repeat' (first | refine vs (k := ?_) | refine ps (k := ?_) | (refine st hs (k := ?_); intro w hs) | (refine stA hs (k := ?_); intro w hs) | (refine al hs (k := ?_); intro b w hz hs) | (refine bx hs (k := ?_); intro b w hz hs) | (refine bs hs (k := ?_); intro b w hz hs) | refine XS.nil ?_ | refine then_of ?_ | refine xc_seq ?_ | (refine xc_region ?_ ?_; exact rfl) | refine xc_block ?_ | refine block_normal ?_ | refine xc_ret ?_ | refine then_ret ?_ | refine block_ret ?_ | refine xc_skip ?_ | refine xc_exit ?_ | refine then_exit ?_ | refine loopS_exit ?_ | refine loopS_ret ?_ | refine cutB_ret ?_ | refine cutN_ret ?_ | refine cutN_exit ?_ | refine block_exit ?_ | (refine block_other ?_ ?_; exact rfl) | (refine xc_true ?_ ?_; exact rfl) | (refine xc_false ?_ ?_; exact rfl) | ((with_reducible apply xs_guard); exact rfl; exact rfl; intro c hc; (fail_if_success (have : true = c := hc)); (fail_if_success (have : false = c := hc)); cases c) | (refine xc_if rfl (fun hc => ?_) (fun hc => ?_)) | (refine xc_cond rfl (fun hc => ?_) (fun hc => ?_)))
      have ho2 : Only [] w _ := hs.onlyF [] (by simp [hb, hu]) (by simp [D0])
      (with_reducible apply xs_call); exact rfl; exact rfl; exact isRed_ret _ _ _ _ (hll.keep ho2 (Nodes.nil _) (by simp))
      rintro v w' ⟨rfl, ho⟩; replace hs := hs.call0 ho
      rw [RB.left_node]
      generalize hq2 : ll.red = q2
      repeat' (first | refine vs (k := ?_) | refine ps (k := ?_) | (refine st hs (k := ?_); intro w hs) | (refine stA hs (k := ?_); intro w hs) | (refine al hs (k := ?_); intro b w hz hs) | (refine bx hs (k := ?_); intro b w hz hs) | (refine bs hs (k := ?_); intro b w hz hs) | refine XS.nil ?_ | refine then_of ?_ | refine xc_seq ?_ | (refine xc_region ?_ ?_; exact rfl) | refine xc_block ?_ | refine block_normal ?_ | refine xc_ret ?_ | refine then_ret ?_ | refine block_ret ?_ | refine xc_skip ?_ | refine xc_exit ?_ | refine then_exit ?_ | refine loopS_exit ?_ | refine loopS_ret ?_ | refine cutB_ret ?_ | refine cutN_ret ?_ | refine cutN_exit ?_ | refine block_exit ?_ | (refine block_other ?_ ?_; exact rfl) | (refine xc_true ?_ ?_; exact rfl) | (refine xc_false ?_ ?_; exact rfl) | ((with_reducible apply xs_guard); exact rfl; exact rfl; intro c hc; (fail_if_success (have : true = c := hc)); (fail_if_success (have : false = c := hc)); cases c) | (refine xc_if rfl (fun hc => ?_) (fun hc => ?_)) | (refine xc_cond rfl (fun hc => ?_) (fun hc => ?_)))
      exact cutN_normal () (by (repeat (first | exact agree_nil | (apply agree_cons; exact rfl)))) (hH.only (hs.onlyF [] (by simp [hb, hu]) (by simp [D0])))
  clear hH
  rintro _ env w hH
  refine xc_cutN (fun s : Option Addr => [(0, .pointer (some ⟨tb, 0, none⟩)), (1, .pointer s), (4, .pointer none)]) (fun s w => Has w0 tb p0 n0 fp (RB.mend2 (.node l1 x1 r1 c1)) s w) ?_ ?_
  · generalize hq : (l1.red && l1.left.red) = q
    cases q
    · repeat' (first | refine vs (k := ?_) | refine ps (k := ?_) | (refine st hs (k := ?_); intro w hs) | (refine stA hs (k := ?_); intro w hs) | (refine al hs (k := ?_); intro b w hz hs) | (refine bx hs (k := ?_); intro b w hz hs) | (refine bs hs (k := ?_); intro b w hz hs) | refine XS.nil ?_ | refine then_of ?_ | refine xc_seq ?_ | (refine xc_region ?_ ?_; exact rfl) | refine xc_block ?_ | refine block_normal ?_ | refine xc_ret ?_ | refine then_ret ?_ | refine block_ret ?_ | refine xc_skip ?_ | refine xc_exit ?_ | refine then_exit ?_ | refine loopS_exit ?_ | refine loopS_ret ?_ | refine cutB_ret ?_ | refine cutN_ret ?_ | refine cutN_exit ?_ | refine block_exit ?_ | (refine block_other ?_ ?_; exact rfl) | (refine xc_true ?_ ?_; exact rfl) | (refine xc_false ?_ ?_; exact rfl) | ((with_reducible apply xs_guard); exact rfl; exact rfl; intro c hc; (fail_if_success (have : true = c := hc)); (fail_if_success (have : false = c := hc)); cases c) | (refine xc_if rfl (fun hc => ?_) (fun hc => ?_)) | (refine xc_cond rfl (fun hc => ?_) (fun hc => ?_)))
      refine cutN_normal p1 (by (repeat (first | exact agree_nil | (apply agree_cons; exact rfl)))) ?_
      unfold RB.mend2
      rw [RB.left_node, hq]
      exact hH
    · obtain ⟨⟨fp1, h1, h2, h3, h4⟩, h5⟩ := hH
      simp only [Bool.and_eq_true] at hq
      obtain ⟨ll, y, lr, rfl⟩ := RB.red_true hq.1
      have hs := St.nil w
      repeat' (first | refine vs (k := ?_) | refine ps (k := ?_) | (refine st hs (k := ?_); intro w hs) | (refine stA hs (k := ?_); intro w hs) | (refine al hs (k := ?_); intro b w hz hs) | (refine bx hs (k := ?_); intro b w hz hs) | (refine bs hs (k := ?_); intro b w hz hs) | refine XS.nil ?_ | refine then_of ?_ | refine xc_seq ?_ | (refine xc_region ?_ ?_; exact rfl) | refine xc_block ?_ | refine block_normal ?_ | refine xc_ret ?_ | refine then_ret ?_ | refine block_ret ?_ | refine xc_skip ?_ | refine xc_exit ?_ | refine then_exit ?_ | refine loopS_exit ?_ | refine loopS_ret ?_ | refine cutB_ret ?_ | refine cutN_ret ?_ | refine cutN_exit ?_ | refine block_exit ?_ | (refine block_other ?_ ?_; exact rfl) | (refine xc_true ?_ ?_; exact rfl) | (refine xc_false ?_ ?_; exact rfl) | ((with_reducible apply xs_guard); exact rfl; exact rfl; intro c hc; (fail_if_success (have : true = c := hc)); (fail_if_success (have : false = c := hc)); cases c) | (refine xc_if rfl (fun hc => ?_) (fun hc => ?_)) | (refine xc_cond rfl (fun hc => ?_) (fun hc => ?_)))
      (with_reducible apply xs_call); exact rfl; exact rfl; exact toRight_ret tb p0 n0 ll y lr x1 r1 c1 true _ _ _ h5 h1.stale h2 (by simpa [RB.list] using hlen1)
      rintro v w' hv
      obtain ⟨p', rfl, hH⟩ := Has.next h1 h3 h4 h5 hv
      have hs := St.nil w'
      repeat' (first | refine vs (k := ?_) | refine ps (k := ?_) | (refine st hs (k := ?_); intro w hs) | (refine stA hs (k := ?_); intro w hs) | (refine al hs (k := ?_); intro b w hz hs) | (refine bx hs (k := ?_); intro b w hz hs) | (refine bs hs (k := ?_); intro b w hz hs) | refine XS.nil ?_ | refine then_of ?_ | refine xc_seq ?_ | (refine xc_region ?_ ?_; exact rfl) | refine xc_block ?_ | refine block_normal ?_ | refine xc_ret ?_ | refine then_ret ?_ | refine block_ret ?_ | refine xc_skip ?_ | refine xc_exit ?_ | refine then_exit ?_ | refine loopS_exit ?_ | refine loopS_ret ?_ | refine cutB_ret ?_ | refine cutN_ret ?_ | refine cutN_exit ?_ | refine block_exit ?_ | (refine block_other ?_ ?_; exact rfl) | (refine xc_true ?_ ?_; exact rfl) | (refine xc_false ?_ ?_; exact rfl) | ((with_reducible apply xs_guard); exact rfl; exact rfl; intro c hc; (fail_if_success (have : true = c := hc)); (fail_if_success (have : false = c := hc)); cases c) | (refine xc_if rfl (fun hc => ?_) (fun hc => ?_)) | (refine xc_cond rfl (fun hc => ?_) (fun hc => ?_)))
      refine cutN_normal p' (by (repeat (first | exact agree_nil | (apply agree_cons; exact rfl)))) ?_
      unfold RB.mend2
      rw [RB.left_node, RB.red_node, hq.2]
      exact hH
  obtain ⟨l2, x2, r2, c2, e2⟩ := mend2_node l1 x1 r1 c1
  rintro p2 env w hH
  rw [e2] at hH
  refine xc_seq ?_
  refine xc_seq ?_
  refine xc_cutN (fun _ : Unit => [(0, .pointer (some ⟨tb, 0, none⟩)), (1, .pointer p2), (4, .pointer none), (53, .bool (l2.red && r2.red))]) (fun _ w => Has w0 tb p0 n0 fp (.node l2 x2 r2 c2) p2 w) ?_ ?_
  · obtain ⟨⟨fp1, ⟨b, av, pl, pr, fl, fr, rfl, rfl, hb, hav, hl, hr⟩, hnd1, hsub, ho⟩, hd⟩ := hH
    have hH : Has w0 tb p0 n0 fp (.node l2 x2 r2 c2) (some ⟨b, 0, none⟩) w := ⟨⟨_, ⟨b, av, pl, pr, fl, fr, rfl, rfl, hb, hav, hl, hr⟩, hnd1, hsub, ho⟩, hd⟩
    have hs := (St.nil w).track hb (by simp)
    repeat' (first | refine vs (k := ?_) | refine ps (k := ?_) | (refine st hs (k := ?_); intro w hs) | (refine stA hs (k := ?_); intro w hs) | (refine al hs (k := ?_); intro b w hz hs) | (refine bx hs (k := ?_); intro b w hz hs) | (refine bs hs (k := ?_); intro b w hz hs) | refine XS.nil ?_ | refine then_of ?_ | refine xc_seq ?_ | (refine xc_region ?_ ?_; exact rfl) | refine xc_block ?_ | refine block_normal ?_ | refine xc_ret ?_ | refine then_ret ?_ | refine block_ret ?_ | refine xc_skip ?_ | refine xc_exit ?_ | refine then_exit ?_ | refine loopS_exit ?_ | refine loopS_ret ?_ | refine cutB_ret ?_ | refine cutN_ret ?_ | refine cutN_exit ?_ | refine block_exit ?_ | (refine block_other ?_ ?_; exact rfl) | (refine xc_true ?_ ?_; exact rfl) | (refine xc_false ?_ ?_; exact rfl) | ((with_reducible apply xs_guard); exact rfl; exact rfl; intro c hc; (fail_if_success (have : true = c := hc)); (fail_if_success (have : false = c := hc)); cases c) | (refine xc_if rfl (fun hc => ?_) (fun hc => ?_)) | (refine xc_cond rfl (fun hc => ?_) (fun hc => ?_)))
    have ho2 : Only [] w _ := hs.onlyF [] (by simp [hb]) (by simp [D0])
    (with_reducible apply xs_call); exact rfl; exact rfl; exact isRed_ret l2 pl fl _ (hl.keep ho2 (Nodes.nil _) (by simp))
    rintro v w' ⟨rfl, ho⟩; replace hs := hs.call0 ho
    generalize hq : l2.red = q
    cases q
    · repeat' (first | refine vs (k := ?_) | refine ps (k := ?_) | (refine st hs (k := ?_); intro w hs) | (refine stA hs (k := ?_); intro w hs) | (refine al hs (k := ?_); intro b w hz hs) | (refine bx hs (k := ?_); intro b w hz hs) | (refine bs hs (k := ?_); intro b w hz hs) | refine XS.nil ?_ | refine then_of ?_ | refine xc_seq ?_ | (refine xc_region ?_ ?_; exact rfl) | refine xc_block ?_ | refine block_normal ?_ | refine xc_ret ?_ | refine then_ret ?_ | refine block_ret ?_ | refine xc_skip ?_ | refine xc_exit ?_ | refine then_exit ?_ | refine loopS_exit ?_ | refine loopS_ret ?_ | refine cutB_ret ?_ | refine cutN_ret ?_ | refine cutN_exit ?_ | refine block_exit ?_ | (refine block_other ?_ ?_; exact rfl) | (refine xc_true ?_ ?_; exact rfl) | (refine xc_false ?_ ?_; exact rfl) | ((with_reducible apply xs_guard); exact rfl; exact rfl; intro c hc; (fail_if_success (have : true = c := hc)); (fail_if_success (have : false = c := hc)); cases c) | (refine xc_if rfl (fun hc => ?_) (fun hc => ?_)) | (refine xc_cond rfl (fun hc => ?_) (fun hc => ?_)))
      exact cutN_normal () (by (repeat (first | exact agree_nil | (apply agree_cons; exact rfl)))) (hH.only (hs.onlyF [] (by simp [hb]) (by simp [D0])))
    · repeat' (first | refine vs (k := ?_) | refine ps (k := ?_) | (refine st hs (k := ?_); intro w hs) | (refine stA hs (k := ?_); intro w hs) | (refine al hs (k := ?_); intro b w hz hs) | (refine bx hs (k := ?_); intro b w hz hs) | (refine bs hs (k := ?_); intro b w hz hs) | refine XS.nil ?_ | refine then_of ?_ | refine xc_seq ?_ | (refine xc_region ?_ ?_; exact rfl) | refine xc_block ?_ | refine block_normal ?_ | refine xc_ret ?_ | refine then_ret ?_ | refine block_ret ?_ | refine xc_skip ?_ | refine xc_exit ?_ | refine then_exit ?_ | refine loopS_exit ?_ | refine loopS_ret ?_ | refine cutB_ret ?_ | refine cutN_ret ?_ | refine cutN_exit ?_ | refine block_exit ?_ | (refine block_other ?_ ?_; exact rfl) | (refine xc_true ?_ ?_; exact rfl) | (refine xc_false ?_ ?_; exact rfl) | ((with_reducible apply xs_guard); exact rfl; exact rfl; intro c hc; (fail_if_success (have : true = c := hc)); (fail_if_success (have : false = c := hc)); cases c) | (refine xc_if rfl (fun hc => ?_) (fun hc => ?_)) | (refine xc_cond rfl (fun hc => ?_) (fun hc => ?_)))
      have ho2 : Only [] w _ := hs.onlyF [] (by simp [hb]) (by simp [D0])
      (with_reducible apply xs_call); exact rfl; exact rfl; exact isRed_ret r2 pr fr _ (hr.keep ho2 (Nodes.nil _) (by simp))
      rintro v w' ⟨rfl, ho⟩; replace hs := hs.call0 ho
      generalize hq2 : r2.red = q2
      repeat' (first | refine vs (k := ?_) | refine ps (k := ?_) | (refine st hs (k := ?_); intro w hs) | (refine stA hs (k := ?_); intro w hs) | (refine al hs (k := ?_); intro b w hz hs) | (refine bx hs (k := ?_); intro b w hz hs) | (refine bs hs (k := ?_); intro b w hz hs) | refine XS.nil ?_ | refine then_of ?_ | refine xc_seq ?_ | (refine xc_region ?_ ?_; exact rfl) | refine xc_block ?_ | refine block_normal ?_ | refine xc_ret ?_ | refine then_ret ?_ | refine block_ret ?_ | refine xc_skip ?_ | refine xc_exit ?_ | refine then_exit ?_ | refine loopS_exit ?_ | refine loopS_ret ?_ | refine cutB_ret ?_ | refine cutN_ret ?_ | refine cutN_exit ?_ | refine block_exit ?_ | (refine block_other ?_ ?_; exact rfl) | (refine xc_true ?_ ?_; exact rfl) | (refine xc_false ?_ ?_; exact rfl) | ((with_reducible apply xs_guard); exact rfl; exact rfl; intro c hc; (fail_if_success (have : true = c := hc)); (fail_if_success (have : false = c := hc)); cases c) | (refine xc_if rfl (fun hc => ?_) (fun hc => ?_)) | (refine xc_cond rfl (fun hc => ?_) (fun hc => ?_)))
      exact cutN_normal () (by (repeat (first | exact agree_nil | (apply agree_cons; exact rfl)))) (hH.only (hs.onlyF [] (by simp [hb]) (by simp [D0])))
  clear hH
  rintro _ env w hH
  refine xc_cutN (fun _ : Unit => [(0, .pointer (some ⟨tb, 0, none⟩)), (1, .pointer p2), (4, .pointer none)]) (fun _ w => Has w0 tb p0 n0 fp (RB.mend3 (.node l2 x2 r2 c2)) p2 w) ?_ ?_
  · generalize hq : (l2.red && r2.red) = q
    cases q
    · repeat' (first | refine vs (k := ?_) | refine ps (k := ?_) | (refine st hs (k := ?_); intro w hs) | (refine stA hs (k := ?_); intro w hs) | (refine al hs (k := ?_); intro b w hz hs) | (refine bx hs (k := ?_); intro b w hz hs) | (refine bs hs (k := ?_); intro b w hz hs) | refine XS.nil ?_ | refine then_of ?_ | refine xc_seq ?_ | (refine xc_region ?_ ?_; exact rfl) | refine xc_block ?_ | refine block_normal ?_ | refine xc_ret ?_ | refine then_ret ?_ | refine block_ret ?_ | refine xc_skip ?_ | refine xc_exit ?_ | refine then_exit ?_ | refine loopS_exit ?_ | refine loopS_ret ?_ | refine cutB_ret ?_ | refine cutN_ret ?_ | refine cutN_exit ?_ | refine block_exit ?_ | (refine block_other ?_ ?_; exact rfl) | (refine xc_true ?_ ?_; exact rfl) | (refine xc_false ?_ ?_; exact rfl) | ((with_reducible apply xs_guard); exact rfl; exact rfl; intro c hc; (fail_if_success (have : true = c := hc)); (fail_if_success (have : false = c := hc)); cases c) | (refine xc_if rfl (fun hc => ?_) (fun hc => ?_)) | (refine xc_cond rfl (fun hc => ?_) (fun hc => ?_)))
      refine cutN_normal () (by (repeat (first | exact agree_nil | (apply agree_cons; exact rfl)))) ?_
      unfold RB.mend3
      rw [RB.left_node, RB.right_node, hq]
      exact hH
    · obtain ⟨⟨fp1, h1, h2, h3, h4⟩, h5⟩ := hH
      simp only [Bool.and_eq_true] at hq
      obtain ⟨ll, y, lr, rfl⟩ := RB.red_true hq.1
      obtain ⟨rl, z, rr, rfl⟩ := RB.red_true hq.2
      have hs := St.nil w
      repeat' (first | refine vs (k := ?_) | refine ps (k := ?_) | (refine st hs (k := ?_); intro w hs) | (refine stA hs (k := ?_); intro w hs) | (refine al hs (k := ?_); intro b w hz hs) | (refine bx hs (k := ?_); intro b w hz hs) | (refine bs hs (k := ?_); intro b w hz hs) | refine XS.nil ?_ | refine then_of ?_ | refine xc_seq ?_ | (refine xc_region ?_ ?_; exact rfl) | refine xc_block ?_ | refine block_normal ?_ | refine xc_ret ?_ | refine then_ret ?_ | refine block_ret ?_ | refine xc_skip ?_ | refine xc_exit ?_ | refine then_exit ?_ | refine loopS_exit ?_ | refine loopS_ret ?_ | refine cutB_ret ?_ | refine cutN_ret ?_ | refine cutN_exit ?_ | refine block_exit ?_ | (refine block_other ?_ ?_; exact rfl) | (refine xc_true ?_ ?_; exact rfl) | (refine xc_false ?_ ?_; exact rfl) | ((with_reducible apply xs_guard); exact rfl; exact rfl; intro c hc; (fail_if_success (have : true = c := hc)); (fail_if_success (have : false = c := hc)); cases c) | (refine xc_if rfl (fun hc => ?_) (fun hc => ?_)) | (refine xc_cond rfl (fun hc => ?_) (fun hc => ?_)))
      (with_reducible apply xs_call); exact rfl; exact rfl; exact rbFlip_ret ll y lr true x2 rl z rr true c2 p2 fp1 _ h1 h2
      rintro v w' ⟨k1, k2⟩
      have hs := St.nil w'
      repeat' (first | refine vs (k := ?_) | refine ps (k := ?_) | (refine st hs (k := ?_); intro w hs) | (refine stA hs (k := ?_); intro w hs) | (refine al hs (k := ?_); intro b w hz hs) | (refine bx hs (k := ?_); intro b w hz hs) | (refine bs hs (k := ?_); intro b w hz hs) | refine XS.nil ?_ | refine then_of ?_ | refine xc_seq ?_ | (refine xc_region ?_ ?_; exact rfl) | refine xc_block ?_ | refine block_normal ?_ | refine xc_ret ?_ | refine then_ret ?_ | refine block_ret ?_ | refine xc_skip ?_ | refine xc_exit ?_ | refine then_exit ?_ | refine loopS_exit ?_ | refine loopS_ret ?_ | refine cutB_ret ?_ | refine cutN_ret ?_ | refine cutN_exit ?_ | refine block_exit ?_ | (refine block_other ?_ ?_; exact rfl) | (refine xc_true ?_ ?_; exact rfl) | (refine xc_false ?_ ?_; exact rfl) | ((with_reducible apply xs_guard); exact rfl; exact rfl; intro c hc; (fail_if_success (have : true = c := hc)); (fail_if_success (have : false = c := hc)); cases c) | (refine xc_if rfl (fun hc => ?_) (fun hc => ?_)) | (refine xc_cond rfl (fun hc => ?_) (fun hc => ?_)))
      refine cutN_normal () (by (repeat (first | exact agree_nil | (apply agree_cons; exact rfl)))) ⟨⟨fp1, k1, h2, h3, h4.step k2 h3⟩, head_keep h5 k2 h1.nodes⟩
  rintro _ env w hH
  have e3 : RB.mend3 (.node l2 x2 r2 c2) = RB.mend (.node l x r c) := by rw [← e2, ← e1]; rfl
  rw [e3] at hH
  have hs := St.nil w
  obtain ⟨⟨fp1, h1, h2, h3, h4⟩, h5⟩ := hH
  repeat' (first | refine vs (k := ?_) | refine ps (k := ?_) | (refine st hs (k := ?_); intro w hs) | (refine stA hs (k := ?_); intro w hs) | (refine al hs (k := ?_); intro b w hz hs) | (refine bx hs (k := ?_); intro b w hz hs) | (refine bs hs (k := ?_); intro b w hz hs) | refine XS.nil ?_ | refine then_of ?_ | refine xc_seq ?_ | (refine xc_region ?_ ?_; exact rfl) | refine xc_block ?_ | refine block_normal ?_ | refine xc_ret ?_ | refine then_ret ?_ | refine block_ret ?_ | refine xc_skip ?_ | refine xc_exit ?_ | refine then_exit ?_ | refine loopS_exit ?_ | refine loopS_ret ?_ | refine cutB_ret ?_ | refine cutN_ret ?_ | refine cutN_exit ?_ | refine block_exit ?_ | (refine block_other ?_ ?_; exact rfl) | (refine xc_true ?_ ?_; exact rfl) | (refine xc_false ?_ ?_; exact rfl) | ((with_reducible apply xs_guard); exact rfl; exact rfl; intro c hc; (fail_if_success (have : true = c := hc)); (fail_if_success (have : false = c := hc)); cases c) | (refine xc_if rfl (fun hc => ?_) (fun hc => ?_)) | (refine xc_cond rfl (fun hc => ?_) (fun hc => ?_)))
  first | refine rt (hq := ?_) | refine rt' (hq := ?_)
  exact ⟨_, fp1, rfl, h1, h2, h3, h4.step (hs.only0 rfl) (by simp)⟩
end Go.Proofs.YtjooegonmdmajaaX
