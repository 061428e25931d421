/- rbtree: cut. -/
import Derived.Test.YtjooegonmdmajaaRb12
set_option linter.unusedVariables false
set_option linter.unusedSimpArgs false
set_option maxRecDepth 100000
namespace Go.Proofs.YtjooegonmdmajaaX
open Go Go.RowKit
attribute [local irreducible] XS XC XA thenE blockE retE loopE loopS cutB cutN doneE SE
theorem cut_len (x : Int) : ∀ (k : Nat) (t t' : RB Int), RB.cut ltI x k t = some t' → t'.list.length ≤ t.list.length
  | 0, t, t', h => by cases h
  | k + 1, .nil, t', h => by cases h
  | k + 1, .node l y r c, t', h => by
    rw [RB.cut] at h
    cases hxy : ltI x y
    · rw [hxy, cond_false] at h
      have hu : (bif l.red then RB.toRight (.node l y r c) else .node l y r c : RB Int).list = (RB.node l y r c).list := by
        cases l.red
        · rfl
        · exact RB.list_toRight _
      generalize (bif l.red then RB.toRight (.node l y r c) else .node l y r c : RB Int) = u at h hu
      cases h2 : u.right.isNil
      · rw [h2, cond_false] at h
        cases hd : RB.downR u with
        | none => rw [hd] at h; cases h
        | some d =>
          rw [hd] at h
          have hdl := downR_list hd
          cases d with
          | nil => cases h
          | node l2 y2 r2 c2 =>
            simp only at h
            rw [← hu, ← hdl]
            cases h3 : ltI y2 x
            · rw [h3, cond_false] at h
              cases hm : RB.least r2 with
              | none => rw [hm] at h; cases h
              | some m =>
                rw [hm] at h
                obtain ⟨r', hr', rfl⟩ := Option.map_eq_some_iff.1 h
                have := cutMin_len k r2 r' hr'
                rw [RB.list_mend]
                simp only [RB.list, List.length_append, List.length_cons]
                omega
            · rw [h3, cond_true] at h
              obtain ⟨r', hr', rfl⟩ := Option.map_eq_some_iff.1 h
              have := cut_len x k r2 r' hr'
              rw [RB.list_mend]
              simp only [RB.list, List.length_append, List.length_cons]
              omega
      · rw [h2, cond_true] at h; cases h; simp [RB.list]
    · rw [hxy, cond_true] at h
      cases h2 : l.isNil
      · rw [h2, cond_false] at h
        cases hd : RB.downL (.node l y r c) with
        | none => rw [hd] at h; cases h
        | some d =>
          rw [hd] at h
          have hdl := downL_list hd
          cases d with
          | nil => cases h
          | node l2 y2 r2 c2 =>
            obtain ⟨l', hl', rfl⟩ := Option.map_eq_some_iff.1 h
            have := cut_len x k l2 l' hl'
            rw [RB.list_mend, ← hdl]
            simp only [RB.list, List.length_append, List.length_cons]
            omega
      · rw [h2, cond_true] at h; cases h
set_option maxHeartbeats 4000000 in
theorem cut_ret (tb : Nat) (p0 : Option Addr) (n0 : Int) (x : Int) : ∀ (k : Nat) (t t' : RB Int) (p : Option Addr) (fp : List Nat) (w0 : World) (hT : w0.heap[tb]? = some (treeO p0 n0)) (h : TreeAt w0 t p fp) (hnd : fp.Nodup) (hlen : t.list.length ≤ 1000000) (hc : RB.cut ltI x k t = some t'),
    Ret Try.prog 80 #[.pointer (some ⟨tb, 0, none⟩), .pointer p, .int .i64 x] w0 fun v w' => Turned w0 fp t' v w'
  | 0, t, t', p, fp, w0, hT, h, hnd, hlen, hc => by cases hc
  | k + 1, .nil, t', p, fp, w0, hT, h, hnd, hlen, hc => by cases hc
  | k + 1, .node l y r c, t', p, fp, w0, hT, h, hnd, hlen, hc => by
    rw [RB.cut] at hc
    have hH0 : Has w0 tb p0 n0 fp (.node l y r c) p w0 := ⟨⟨fp, h, hnd, fun k hk => .inl hk, Only.refl _ _⟩, hT⟩
    obtain ⟨b, av, pl, pr, fl, fr, rfl, hf, hb, hav, hl, hr⟩ := h
    have hbt := head_ne hT hb
    have hs := ((St.nil w0).track hT (by simp)).track hb (by simpa using hbt)
    refine ret_of_xc Try.func80 (by kernel_rfl) rfl Try.ntmps80 rfl rfl rfl ?_
    repeat' (first | refine vs (k := ?_) | refine ps (k := ?_) | (refine st hs (k := ?_); intro w hs) | (refine stA hs (k := ?_); intro w hs) | (refine al hs (k := ?_); intro b w hz hs) | (refine bx hs (k := ?_); intro b w hz hs) | (refine bs hs (k := ?_); intro b w hz hs) | refine XS.nil ?_ | refine then_of ?_ | refine xc_seq ?_ | (refine xc_region ?_ ?_; exact rfl) | refine xc_block ?_ | refine block_normal ?_ | refine xc_ret ?_ | refine then_ret ?_ | refine block_ret ?_ | refine xc_skip ?_ | refine xc_exit ?_ | refine then_exit ?_ | refine loopS_exit ?_ | refine loopS_ret ?_ | refine cutB_ret ?_ | refine cutN_ret ?_ | refine cutN_exit ?_ | refine block_exit ?_ | (refine block_other ?_ ?_; exact rfl) | (refine xc_true ?_ ?_; exact rfl) | (refine xc_false ?_ ?_; exact rfl) | ((with_reducible apply xs_guard); exact rfl; exact rfl; intro c hc; (fail_if_success (have : true = c := hc)); (fail_if_success (have : false = c := hc)); cases c) | (refine xc_if rfl (fun hc => ?_) (fun hc => ?_)) | (refine xc_cond rfl (fun hc => ?_) (fun hc => ?_)))
    refine dr [] hs (k := ?_); intro hX w hs
    refine tk 0 hX (k := ?_)
    refine tk 1 hX (k := ?_)
    refine tk 2 hX (k := ?_)
    refine tk 3 hX (k := ?_)
    refine tk 4 hX (k := ?_)
    refine tk 5 hX (k := ?_)
    refine tk 6 hX (k := ?_)
    refine tk 7 hX (k := ?_)
    refine tk 8 hX (k := ?_)
    refine dt 9 hX (k := ?_)
    (with_reducible apply xs_call); exact rfl; exact rfl; exact less_ret x y _
    rintro v w1 ⟨rfl, ho⟩; replace hs := hs.call0 ho
    repeat' (first | refine vs (k := ?_) | refine ps (k := ?_) | (refine st hs (k := ?_); intro w hs) | (refine stA hs (k := ?_); intro w hs) | (refine al hs (k := ?_); intro b w hz hs) | (refine bx hs (k := ?_); intro b w hz hs) | (refine bs hs (k := ?_); intro b w hz hs) | refine XS.nil ?_ | refine then_of ?_ | refine xc_seq ?_ | (refine xc_region ?_ ?_; exact rfl) | refine xc_block ?_ | refine block_normal ?_ | refine xc_ret ?_ | refine then_ret ?_ | refine block_ret ?_ | refine xc_skip ?_ | refine xc_exit ?_ | refine then_exit ?_ | refine loopS_exit ?_ | refine loopS_ret ?_ | refine cutB_ret ?_ | refine cutN_ret ?_ | refine cutN_exit ?_ | refine block_exit ?_ | (refine block_other ?_ ?_; exact rfl) | (refine xc_true ?_ ?_; exact rfl) | (refine xc_false ?_ ?_; exact rfl) | ((with_reducible apply xs_guard); exact rfl; exact rfl; intro c hc; (fail_if_success (have : true = c := hc)); (fail_if_success (have : false = c := hc)); cases c) | (refine xc_if rfl (fun hc => ?_) (fun hc => ?_)) | (refine xc_cond rfl (fun hc => ?_) (fun hc => ?_)))
    refine dn (k := ?_)
    refine en (k := ?_)
    have ho1 : Only [] w0 w1 := hs.onlyF [] (by simp [hT, hb]) (by simp [D0])
    have hH := hH0.only ho1
    have hT1 := hs.get (At.tail At.head)
    have hb1 := hs.get At.head
    have hl1 := hl.keep ho1 (Nodes.nil _) (by simp)
    have hr1 := hr.keep ho1 (Nodes.nil _) (by simp)
    generalize hq : decide (x < y) = q
    rw [show ltI x y = q from hq] at hc
    clear hs hH0 hT hb hl hr ho hav
    cases q
    · rw [cond_false] at hc
      have hs := (St.nil w1).track hb1 (by simp)
      repeat' (first | refine vs (k := ?_) | refine ps (k := ?_) | (refine st hs (k := ?_); intro w hs) | (refine stA hs (k := ?_); intro w hs) | (refine al hs (k := ?_); intro b w hz hs) | (refine bx hs (k := ?_); intro b w hz hs) | (refine bs hs (k := ?_); intro b w hz hs) | refine XS.nil ?_ | refine then_of ?_ | refine xc_seq ?_ | refine xc_block ?_ | refine block_normal ?_ | refine xc_ret ?_ | refine then_ret ?_ | refine block_ret ?_ | refine xc_skip ?_ | refine xc_exit ?_ | refine then_exit ?_ | refine loopS_exit ?_ | refine loopS_ret ?_ | refine cutB_ret ?_ | refine cutN_ret ?_ | refine cutN_exit ?_ | refine block_exit ?_ | (refine block_other ?_ ?_; exact rfl) | (refine xc_true ?_ ?_; exact rfl) | (refine xc_false ?_ ?_; exact rfl) | ((with_reducible apply xs_guard); exact rfl; exact rfl; intro c hc; (fail_if_success (have : true = c := hc)); (fail_if_success (have : false = c := hc)); cases c) | (refine xc_if rfl (fun hc => ?_) (fun hc => ?_)) | (refine xc_cond rfl (fun hc => ?_) (fun hc => ?_)))
      refine xc_cutN (fun _ : Unit => [(0, .pointer (some ⟨tb, 0, none⟩)), (1, .pointer (some ⟨b, 0, none⟩)), (2, .int .i64 x), (6, .pointer none), (55, .bool l.red)]) (fun _ w => Has w0 tb p0 n0 fp (.node l y r c) (some ⟨b, 0, none⟩) w) ?_ ?_
      · repeat' (first | refine vs (k := ?_) | refine ps (k := ?_) | (refine st hs (k := ?_); intro w hs) | (refine stA hs (k := ?_); intro w hs) | (refine al hs (k := ?_); intro b w hz hs) | (refine bx hs (k := ?_); intro b w hz hs) | (refine bs hs (k := ?_); intro b w hz hs) | refine XS.nil ?_ | refine then_of ?_ | refine xc_seq ?_ | (refine xc_region ?_ ?_; exact rfl) | refine xc_block ?_ | refine block_normal ?_ | refine xc_ret ?_ | refine then_ret ?_ | refine block_ret ?_ | refine xc_skip ?_ | refine xc_exit ?_ | refine then_exit ?_ | refine loopS_exit ?_ | refine loopS_ret ?_ | refine cutB_ret ?_ | refine cutN_ret ?_ | refine cutN_exit ?_ | refine block_exit ?_ | (refine block_other ?_ ?_; exact rfl) | (refine xc_true ?_ ?_; exact rfl) | (refine xc_false ?_ ?_; exact rfl) | ((with_reducible apply xs_guard); exact rfl; exact rfl; intro c hc; (fail_if_success (have : true = c := hc)); (fail_if_success (have : false = c := hc)); cases c) | (refine xc_if rfl (fun hc => ?_) (fun hc => ?_)) | (refine xc_cond rfl (fun hc => ?_) (fun hc => ?_)))
        have ho2 : Only [] w1 _ := hs.onlyF [] (by simp [hb1]) (by simp [D0])
        (with_reducible apply xs_call); exact rfl; exact rfl; exact isRed_ret _ _ _ _ (hl1.keep ho2 (Nodes.nil _) (by simp))
        rintro v w' ⟨rfl, ho⟩; replace hs := hs.call0 ho
        generalize hq2 : l.red = q2
        repeat' (first | refine vs (k := ?_) | refine ps (k := ?_) | (refine st hs (k := ?_); intro w hs) | (refine stA hs (k := ?_); intro w hs) | (refine al hs (k := ?_); intro b w hz hs) | (refine bx hs (k := ?_); intro b w hz hs) | (refine bs hs (k := ?_); intro b w hz hs) | refine XS.nil ?_ | refine then_of ?_ | refine xc_seq ?_ | (refine xc_region ?_ ?_; exact rfl) | refine xc_block ?_ | refine block_normal ?_ | refine xc_ret ?_ | refine then_ret ?_ | refine block_ret ?_ | refine xc_skip ?_ | refine xc_exit ?_ | refine then_exit ?_ | refine loopS_exit ?_ | refine loopS_ret ?_ | refine cutB_ret ?_ | refine cutN_ret ?_ | refine cutN_exit ?_ | refine block_exit ?_ | (refine block_other ?_ ?_; exact rfl) | (refine xc_true ?_ ?_; exact rfl) | (refine xc_false ?_ ?_; exact rfl) | ((with_reducible apply xs_guard); exact rfl; exact rfl; intro c hc; (fail_if_success (have : true = c := hc)); (fail_if_success (have : false = c := hc)); cases c) | (refine xc_if rfl (fun hc => ?_) (fun hc => ?_)) | (refine xc_cond rfl (fun hc => ?_) (fun hc => ?_)))
        exact cutN_normal () (by (repeat (first | exact agree_nil | (apply agree_cons; exact rfl)))) (hH.only (hs.onlyF [] (by simp [hb1]) (by simp [D0])))
      clear hH hs hb1 hl1 hr1 hT1
      rintro _ env w hH
      refine xc_cutN (fun s : Option Addr => [(0, .pointer (some ⟨tb, 0, none⟩)), (1, .pointer s), (2, .int .i64 x), (6, .pointer none)]) (fun s w => Has w0 tb p0 n0 fp (bif l.red then RB.toRight (.node l y r c) else .node l y r c) s w) ?_ ?_
      · cases hq2 : l.red
        · repeat' (first | refine vs (k := ?_) | refine ps (k := ?_) | (refine st hs (k := ?_); intro w hs) | (refine stA hs (k := ?_); intro w hs) | (refine al hs (k := ?_); intro b w hz hs) | (refine bx hs (k := ?_); intro b w hz hs) | (refine bs hs (k := ?_); intro b w hz hs) | refine XS.nil ?_ | refine then_of ?_ | refine xc_seq ?_ | (refine xc_region ?_ ?_; exact rfl) | refine xc_block ?_ | refine block_normal ?_ | refine xc_ret ?_ | refine then_ret ?_ | refine block_ret ?_ | refine xc_skip ?_ | refine xc_exit ?_ | refine then_exit ?_ | refine loopS_exit ?_ | refine loopS_ret ?_ | refine cutB_ret ?_ | refine cutN_ret ?_ | refine cutN_exit ?_ | refine block_exit ?_ | (refine block_other ?_ ?_; exact rfl) | (refine xc_true ?_ ?_; exact rfl) | (refine xc_false ?_ ?_; exact rfl) | ((with_reducible apply xs_guard); exact rfl; exact rfl; intro c hc; (fail_if_success (have : true = c := hc)); (fail_if_success (have : false = c := hc)); cases c) | (refine xc_if rfl (fun hc => ?_) (fun hc => ?_)) | (refine xc_cond rfl (fun hc => ?_) (fun hc => ?_)))
          exact cutN_normal _ (by (repeat (first | exact agree_nil | (apply agree_cons; exact rfl)))) hH
        · obtain ⟨ll, z, lr, rfl⟩ := RB.red_true hq2
          obtain ⟨⟨fp1, h1, h2, h3, h4⟩, h5⟩ := hH
          have hs := St.nil w
          repeat' (first | refine vs (k := ?_) | refine ps (k := ?_) | (refine st hs (k := ?_); intro w hs) | (refine stA hs (k := ?_); intro w hs) | (refine al hs (k := ?_); intro b w hz hs) | (refine bx hs (k := ?_); intro b w hz hs) | (refine bs hs (k := ?_); intro b w hz hs) | refine XS.nil ?_ | refine then_of ?_ | refine xc_seq ?_ | (refine xc_region ?_ ?_; exact rfl) | refine xc_block ?_ | refine block_normal ?_ | refine xc_ret ?_ | refine then_ret ?_ | refine block_ret ?_ | refine xc_skip ?_ | refine xc_exit ?_ | refine then_exit ?_ | refine loopS_exit ?_ | refine loopS_ret ?_ | refine cutB_ret ?_ | refine cutN_ret ?_ | refine cutN_exit ?_ | refine block_exit ?_ | (refine block_other ?_ ?_; exact rfl) | (refine xc_true ?_ ?_; exact rfl) | (refine xc_false ?_ ?_; exact rfl) | ((with_reducible apply xs_guard); exact rfl; exact rfl; intro c hc; (fail_if_success (have : true = c := hc)); (fail_if_success (have : false = c := hc)); cases c) | (refine xc_if rfl (fun hc => ?_) (fun hc => ?_)) | (refine xc_cond rfl (fun hc => ?_) (fun hc => ?_)))
          (with_reducible apply xs_call); exact rfl; exact rfl; exact toRight_ret tb p0 n0 ll z lr y r c true _ _ _ h5 h1.stale h2 (by simpa [RB.list] using hlen)
          rintro v w' hv
          obtain ⟨p', rfl, hH⟩ := Has.next h1 h3 h4 h5 hv
          have hs := St.nil w'
          repeat' (first | refine vs (k := ?_) | refine ps (k := ?_) | (refine st hs (k := ?_); intro w hs) | (refine stA hs (k := ?_); intro w hs) | (refine al hs (k := ?_); intro b w hz hs) | (refine bx hs (k := ?_); intro b w hz hs) | (refine bs hs (k := ?_); intro b w hz hs) | refine XS.nil ?_ | refine then_of ?_ | refine xc_seq ?_ | (refine xc_region ?_ ?_; exact rfl) | refine xc_block ?_ | refine block_normal ?_ | refine xc_ret ?_ | refine then_ret ?_ | refine block_ret ?_ | refine xc_skip ?_ | refine xc_exit ?_ | refine then_exit ?_ | refine loopS_exit ?_ | refine loopS_ret ?_ | refine cutB_ret ?_ | refine cutN_ret ?_ | refine cutN_exit ?_ | refine block_exit ?_ | (refine block_other ?_ ?_; exact rfl) | (refine xc_true ?_ ?_; exact rfl) | (refine xc_false ?_ ?_; exact rfl) | ((with_reducible apply xs_guard); exact rfl; exact rfl; intro c hc; (fail_if_success (have : true = c := hc)); (fail_if_success (have : false = c := hc)); cases c) | (refine xc_if rfl (fun hc => ?_) (fun hc => ?_)) | (refine xc_cond rfl (fun hc => ?_) (fun hc => ?_)))
          exact cutN_normal p' (by (repeat (first | exact agree_nil | (apply agree_cons; exact rfl)))) hH
      clear hH
      rintro p1 env w hH
      obtain ⟨l1, y1, r1, c1, hu, hul⟩ : ∃ l1 y1 r1 c1, (bif l.red then RB.toRight (.node l y r c) else .node l y r c : RB Int) = .node l1 y1 r1 c1 ∧ (RB.node l1 y1 r1 c1).list = (RB.node l y r c).list := by
        cases hq2 : l.red
        · exact ⟨_, _, _, _, rfl, rfl⟩
        · obtain ⟨ll, z, lr, rfl⟩ := RB.red_true hq2
          exact ⟨_, _, _, _, rfl, RB.list_toRight (.node (.node ll z lr true) y r c)⟩
      rw [hu] at hH hc
      rw [RB.right_node] at hc
      obtain ⟨⟨fp1, ⟨b, av, pl, pr, fl, fr, rfl, hf1, hb, hav, hl, hr⟩, h2, h3, h4⟩, h5⟩ := hH
      have hH : Has w0 tb p0 n0 fp (.node l1 y1 r1 c1) (some ⟨b, 0, none⟩) w := ⟨⟨fp1, ⟨b, av, pl, pr, fl, fr, rfl, hf1, hb, hav, hl, hr⟩, h2, h3, h4⟩, h5⟩
      cases r1 with
      | nil =>
        simp only [RB.isNil, cond_true, Option.some.injEq] at hc
        subst hc
        obtain ⟨rfl, rfl⟩ := hr
        have hs := (St.nil w).track hb (by simp)
        repeat' (first | refine vs (k := ?_) | refine ps (k := ?_) | (refine st hs (k := ?_); intro w hs) | (refine stA hs (k := ?_); intro w hs) | (refine al hs (k := ?_); intro b w hz hs) | (refine bx hs (k := ?_); intro b w hz hs) | (refine bs hs (k := ?_); intro b w hz hs) | refine XS.nil ?_ | refine then_of ?_ | refine xc_seq ?_ | (refine xc_region ?_ ?_; exact rfl) | refine xc_block ?_ | refine block_normal ?_ | refine xc_ret ?_ | refine then_ret ?_ | refine block_ret ?_ | refine xc_skip ?_ | refine xc_exit ?_ | refine then_exit ?_ | refine loopS_exit ?_ | refine loopS_ret ?_ | refine cutB_ret ?_ | refine cutN_ret ?_ | refine cutN_exit ?_ | refine block_exit ?_ | (refine block_other ?_ ?_; exact rfl) | (refine xc_true ?_ ?_; exact rfl) | (refine xc_false ?_ ?_; exact rfl) | ((with_reducible apply xs_guard); exact rfl; exact rfl; intro c hc; (fail_if_success (have : true = c := hc)); (fail_if_success (have : false = c := hc)); cases c) | (refine xc_if rfl (fun hc => ?_) (fun hc => ?_)) | (refine xc_cond rfl (fun hc => ?_) (fun hc => ?_)))
        first | refine rt (hq := ?_) | refine rt' (hq := ?_)
        exact ⟨none, [], rfl, ⟨rfl, rfl⟩, List.nodup_nil, (fun k hk => by cases hk), h4.step (hs.onlyF [] (by simp [hb]) (by simp [D0])) (by simp)⟩
      | node rl z rr rc =>
      simp only [RB.isNil, cond_false] at hc
      have hr0 := hr
      obtain ⟨u, avu, pll, plr, fll, flr, rfl, hf2, hu', hau, hll, hlr⟩ := hr
      have hub : u ≠ b := fun e => by subst e; rw [hf1, hf2] at h2; simp at h2
      have hs := ((St.nil w).track hb (by simp)).track hu' (by simpa using hub)
      repeat' (first | refine vs (k := ?_) | refine ps (k := ?_) | (refine st hs (k := ?_); intro w hs) | (refine stA hs (k := ?_); intro w hs) | (refine al hs (k := ?_); intro b w hz hs) | (refine bx hs (k := ?_); intro b w hz hs) | (refine bs hs (k := ?_); intro b w hz hs) | refine XS.nil ?_ | refine then_of ?_ | refine xc_seq ?_ | refine xc_block ?_ | refine block_normal ?_ | refine xc_ret ?_ | refine then_ret ?_ | refine block_ret ?_ | refine xc_skip ?_ | refine xc_exit ?_ | refine then_exit ?_ | refine loopS_exit ?_ | refine loopS_ret ?_ | refine cutB_ret ?_ | refine cutN_ret ?_ | refine cutN_exit ?_ | refine block_exit ?_ | (refine block_other ?_ ?_; exact rfl) | (refine xc_true ?_ ?_; exact rfl) | (refine xc_false ?_ ?_; exact rfl) | ((with_reducible apply xs_guard); exact rfl; exact rfl; intro c hc; (fail_if_success (have : true = c := hc)); (fail_if_success (have : false = c := hc)); cases c) | (refine xc_if rfl (fun hc => ?_) (fun hc => ?_)) | (refine xc_cond rfl (fun hc => ?_) (fun hc => ?_)))
      refine xc_region ?_ ?_; exact rfl
      repeat' (first | refine vs (k := ?_) | refine ps (k := ?_) | (refine st hs (k := ?_); intro w hs) | (refine stA hs (k := ?_); intro w hs) | (refine al hs (k := ?_); intro b w hz hs) | (refine bx hs (k := ?_); intro b w hz hs) | (refine bs hs (k := ?_); intro b w hz hs) | refine XS.nil ?_ | refine then_of ?_ | refine xc_seq ?_ | refine xc_block ?_ | refine block_normal ?_ | refine xc_ret ?_ | refine then_ret ?_ | refine block_ret ?_ | refine xc_skip ?_ | refine xc_exit ?_ | refine then_exit ?_ | refine loopS_exit ?_ | refine loopS_ret ?_ | refine cutB_ret ?_ | refine cutN_ret ?_ | refine cutN_exit ?_ | refine block_exit ?_ | (refine block_other ?_ ?_; exact rfl) | (refine xc_true ?_ ?_; exact rfl) | (refine xc_false ?_ ?_; exact rfl) | ((with_reducible apply xs_guard); exact rfl; exact rfl; intro c hc; (fail_if_success (have : true = c := hc)); (fail_if_success (have : false = c := hc)); cases c) | (refine xc_if rfl (fun hc => ?_) (fun hc => ?_)) | (refine xc_cond rfl (fun hc => ?_) (fun hc => ?_)))
      refine xc_cutN (fun _ : Unit => [(0, .pointer (some ⟨tb, 0, none⟩)), (1, .pointer (some ⟨b, 0, none⟩)), (2, .int .i64 x), (6, .pointer none), (80, .bool (!rc && !rl.red))]) (fun _ w => Has w0 tb p0 n0 fp (.node l1 y1 (.node rl z rr rc) c1) (some ⟨b, 0, none⟩) w) ?_ ?_
      · repeat' (first | refine vs (k := ?_) | refine ps (k := ?_) | (refine st hs (k := ?_); intro w hs) | (refine stA hs (k := ?_); intro w hs) | (refine al hs (k := ?_); intro b w hz hs) | (refine bx hs (k := ?_); intro b w hz hs) | (refine bs hs (k := ?_); intro b w hz hs) | refine XS.nil ?_ | refine then_of ?_ | refine xc_seq ?_ | (refine xc_region ?_ ?_; exact rfl) | refine xc_block ?_ | refine block_normal ?_ | refine xc_ret ?_ | refine then_ret ?_ | refine block_ret ?_ | refine xc_skip ?_ | refine xc_exit ?_ | refine then_exit ?_ | refine loopS_exit ?_ | refine loopS_ret ?_ | refine cutB_ret ?_ | refine cutN_ret ?_ | refine cutN_exit ?_ | refine block_exit ?_ | (refine block_other ?_ ?_; exact rfl) | (refine xc_true ?_ ?_; exact rfl) | (refine xc_false ?_ ?_; exact rfl) | ((with_reducible apply xs_guard); exact rfl; exact rfl; intro c hc; (fail_if_success (have : true = c := hc)); (fail_if_success (have : false = c := hc)); cases c) | (refine xc_if rfl (fun hc => ?_) (fun hc => ?_)) | (refine xc_cond rfl (fun hc => ?_) (fun hc => ?_)))
        have ho2 : Only [] w _ := hs.onlyF [] (by simp [hb, hu']) (by simp [D0])
        (with_reducible apply xs_call); exact rfl; exact rfl; exact isRed_ret _ _ _ _ (hr0.keep ho2 (Nodes.nil _) (by simp))
        rintro v w' ⟨rfl, ho⟩; replace hs := hs.call0 ho
        rw [RB.red_node]
        cases rc
        · repeat' (first | refine vs (k := ?_) | refine ps (k := ?_) | (refine st hs (k := ?_); intro w hs) | (refine stA hs (k := ?_); intro w hs) | (refine al hs (k := ?_); intro b w hz hs) | (refine bx hs (k := ?_); intro b w hz hs) | (refine bs hs (k := ?_); intro b w hz hs) | refine XS.nil ?_ | refine then_of ?_ | refine xc_seq ?_ | (refine xc_region ?_ ?_; exact rfl) | refine xc_block ?_ | refine block_normal ?_ | refine xc_ret ?_ | refine then_ret ?_ | refine block_ret ?_ | refine xc_skip ?_ | refine xc_exit ?_ | refine then_exit ?_ | refine loopS_exit ?_ | refine loopS_ret ?_ | refine cutB_ret ?_ | refine cutN_ret ?_ | refine cutN_exit ?_ | refine block_exit ?_ | (refine block_other ?_ ?_; exact rfl) | (refine xc_true ?_ ?_; exact rfl) | (refine xc_false ?_ ?_; exact rfl) | ((with_reducible apply xs_guard); exact rfl; exact rfl; intro c hc; (fail_if_success (have : true = c := hc)); (fail_if_success (have : false = c := hc)); cases c) | (refine xc_if rfl (fun hc => ?_) (fun hc => ?_)) | (refine xc_cond rfl (fun hc => ?_) (fun hc => ?_)))
          have ho2 : Only [] w _ := hs.onlyF [] (by simp [hb, hu']) (by simp [D0])
          (with_reducible apply xs_call); exact rfl; exact rfl; exact isRed_ret _ _ _ _ (hll.keep ho2 (Nodes.nil _) (by simp))
          rintro v w' ⟨rfl, ho⟩; replace hs := hs.call0 ho
          generalize hq2 : rl.red = q2
          repeat' (first | refine vs (k := ?_) | refine ps (k := ?_) | (refine st hs (k := ?_); intro w hs) | (refine stA hs (k := ?_); intro w hs) | (refine al hs (k := ?_); intro b w hz hs) | (refine bx hs (k := ?_); intro b w hz hs) | (refine bs hs (k := ?_); intro b w hz hs) | refine XS.nil ?_ | refine then_of ?_ | refine xc_seq ?_ | (refine xc_region ?_ ?_; exact rfl) | refine xc_block ?_ | refine block_normal ?_ | refine xc_ret ?_ | refine then_ret ?_ | refine block_ret ?_ | refine xc_skip ?_ | refine xc_exit ?_ | refine then_exit ?_ | refine loopS_exit ?_ | refine loopS_ret ?_ | refine cutB_ret ?_ | refine cutN_ret ?_ | refine cutN_exit ?_ | refine block_exit ?_ | (refine block_other ?_ ?_; exact rfl) | (refine xc_true ?_ ?_; exact rfl) | (refine xc_false ?_ ?_; exact rfl) | ((with_reducible apply xs_guard); exact rfl; exact rfl; intro c hc; (fail_if_success (have : true = c := hc)); (fail_if_success (have : false = c := hc)); cases c) | (refine xc_if rfl (fun hc => ?_) (fun hc => ?_)) | (refine xc_cond rfl (fun hc => ?_) (fun hc => ?_)))
          exact cutN_normal () (by (repeat (first | exact agree_nil | (apply agree_cons; exact rfl)))) (hH.only (hs.onlyF [] (by simp [hb, hu']) (by simp [D0])))
        · repeat' (first | refine vs (k := ?_) | refine ps (k := ?_) | (refine st hs (k := ?_); intro w hs) | (refine stA hs (k := ?_); intro w hs) | (refine al hs (k := ?_); intro b w hz hs) | (refine bx hs (k := ?_); intro b w hz hs) | (refine bs hs (k := ?_); intro b w hz hs) | refine XS.nil ?_ | refine then_of ?_ | refine xc_seq ?_ | (refine xc_region ?_ ?_; exact rfl) | refine xc_block ?_ | refine block_normal ?_ | refine xc_ret ?_ | refine then_ret ?_ | refine block_ret ?_ | refine xc_skip ?_ | refine xc_exit ?_ | refine then_exit ?_ | refine loopS_exit ?_ | refine loopS_ret ?_ | refine cutB_ret ?_ | refine cutN_ret ?_ | refine cutN_exit ?_ | refine block_exit ?_ | (refine block_other ?_ ?_; exact rfl) | (refine xc_true ?_ ?_; exact rfl) | (refine xc_false ?_ ?_; exact rfl) | ((with_reducible apply xs_guard); exact rfl; exact rfl; intro c hc; (fail_if_success (have : true = c := hc)); (fail_if_success (have : false = c := hc)); cases c) | (refine xc_if rfl (fun hc => ?_) (fun hc => ?_)) | (refine xc_cond rfl (fun hc => ?_) (fun hc => ?_)))
          exact cutN_normal () (by (repeat (first | exact agree_nil | (apply agree_cons; exact rfl)))) (hH.only (hs.onlyF [] (by simp [hb, hu']) (by simp [D0])))
      clear hH hs hb hl hr0 hu' hau hll hlr h2 h3 h4 h5 hav hf1 hf2
      rintro _ env w hH
      obtain ⟨d, hd⟩ : ∃ d, RB.downR (.node l1 y1 (.node rl z rr rc) c1) = some d := by
        cases hd : RB.downR (.node l1 y1 (.node rl z rr rc) c1) with
        | none => rw [hd] at hc; cases hc
        | some d => exact ⟨d, rfl⟩
      rw [hd] at hc
      have hdl := downR_list hd
      rw [hul] at hdl
      refine xc_cutN (fun s : Option Addr => [(0, .pointer (some ⟨tb, 0, none⟩)), (1, .pointer s), (2, .int .i64 x), (6, .pointer none)]) (fun s w => Has w0 tb p0 n0 fp d s w) ?_ ?_
      · unfold RB.downR at hd
        rw [RB.right_node, RB.red_node, RB.left_node] at hd
        generalize hq : (!rc && !rl.red) = q at *
        cases q
        · repeat' (first | refine vs (k := ?_) | refine ps (k := ?_) | (refine st hs (k := ?_); intro w hs) | (refine stA hs (k := ?_); intro w hs) | (refine al hs (k := ?_); intro b w hz hs) | (refine bx hs (k := ?_); intro b w hz hs) | (refine bs hs (k := ?_); intro b w hz hs) | refine XS.nil ?_ | refine then_of ?_ | refine xc_seq ?_ | (refine xc_region ?_ ?_; exact rfl) | refine xc_block ?_ | refine block_normal ?_ | refine xc_ret ?_ | refine then_ret ?_ | refine block_ret ?_ | refine xc_skip ?_ | refine xc_exit ?_ | refine then_exit ?_ | refine loopS_exit ?_ | refine loopS_ret ?_ | refine cutB_ret ?_ | refine cutN_ret ?_ | refine cutN_exit ?_ | refine block_exit ?_ | (refine block_other ?_ ?_; exact rfl) | (refine xc_true ?_ ?_; exact rfl) | (refine xc_false ?_ ?_; exact rfl) | ((with_reducible apply xs_guard); exact rfl; exact rfl; intro c hc; (fail_if_success (have : true = c := hc)); (fail_if_success (have : false = c := hc)); cases c) | (refine xc_if rfl (fun hc => ?_) (fun hc => ?_)) | (refine xc_cond rfl (fun hc => ?_) (fun hc => ?_)))
          cases hd
          exact cutN_normal _ (by (repeat (first | exact agree_nil | (apply agree_cons; exact rfl)))) hH
        · rw [cond_true] at hd
          cases hbo : RB.both (.node l1 y1 (.node rl z rr rc) c1)
          · rw [hbo] at hd; cases hd
          rw [hbo, cond_true] at hd
          cases hd
          obtain ⟨⟨fp1, h1, h2, h3, h4⟩, h5⟩ := hH
          have hs := St.nil w
          repeat' (first | refine vs (k := ?_) | refine ps (k := ?_) | (refine st hs (k := ?_); intro w hs) | (refine stA hs (k := ?_); intro w hs) | (refine al hs (k := ?_); intro b w hz hs) | (refine bx hs (k := ?_); intro b w hz hs) | (refine bs hs (k := ?_); intro b w hz hs) | refine XS.nil ?_ | refine then_of ?_ | refine xc_seq ?_ | (refine xc_region ?_ ?_; exact rfl) | refine xc_block ?_ | refine block_normal ?_ | refine xc_ret ?_ | refine then_ret ?_ | refine block_ret ?_ | refine xc_skip ?_ | refine xc_exit ?_ | refine then_exit ?_ | refine loopS_exit ?_ | refine loopS_ret ?_ | refine cutB_ret ?_ | refine cutN_ret ?_ | refine cutN_exit ?_ | refine block_exit ?_ | (refine block_other ?_ ?_; exact rfl) | (refine xc_true ?_ ?_; exact rfl) | (refine xc_false ?_ ?_; exact rfl) | ((with_reducible apply xs_guard); exact rfl; exact rfl; intro c hc; (fail_if_success (have : true = c := hc)); (fail_if_success (have : false = c := hc)); cases c) | (refine xc_if rfl (fun hc => ?_) (fun hc => ?_)) | (refine xc_cond rfl (fun hc => ?_) (fun hc => ?_)))
          (with_reducible apply xs_call); exact rfl; exact rfl; exact redRight_ret tb p0 n0 _ _ _ _ h5 h1 h2 (by rw [hul]; exact hlen) hbo
          rintro v w' hv
          obtain ⟨p', rfl, hH⟩ := Has.next h1 h3 h4 h5 hv
          have hs := St.nil w'
          repeat' (first | refine vs (k := ?_) | refine ps (k := ?_) | (refine st hs (k := ?_); intro w hs) | (refine stA hs (k := ?_); intro w hs) | (refine al hs (k := ?_); intro b w hz hs) | (refine bx hs (k := ?_); intro b w hz hs) | (refine bs hs (k := ?_); intro b w hz hs) | refine XS.nil ?_ | refine then_of ?_ | refine xc_seq ?_ | (refine xc_region ?_ ?_; exact rfl) | refine xc_block ?_ | refine block_normal ?_ | refine xc_ret ?_ | refine then_ret ?_ | refine block_ret ?_ | refine xc_skip ?_ | refine xc_exit ?_ | refine then_exit ?_ | refine loopS_exit ?_ | refine loopS_ret ?_ | refine cutB_ret ?_ | refine cutN_ret ?_ | refine cutN_exit ?_ | refine block_exit ?_ | (refine block_other ?_ ?_; exact rfl) | (refine xc_true ?_ ?_; exact rfl) | (refine xc_false ?_ ?_; exact rfl) | ((with_reducible apply xs_guard); exact rfl; exact rfl; intro c hc; (fail_if_success (have : true = c := hc)); (fail_if_success (have : false = c := hc)); cases c) | (refine xc_if rfl (fun hc => ?_) (fun hc => ?_)) | (refine xc_cond rfl (fun hc => ?_) (fun hc => ?_)))
          exact cutN_normal p' (by (repeat (first | exact agree_nil | (apply agree_cons; exact rfl)))) hH
      clear hH
      rintro p2 env wB hH
      cases d with
      | nil => cases hc
      | node l2 y2 r2 c2 =>
      simp only at hc
      obtain ⟨⟨fp1, ⟨b, av, pl, pr, fl, fr, rfl, rfl, hb, hav, hl, hr⟩, h2, h3, h4⟩, h5⟩ := hH
      have hbt := head_ne h5 hb
      have hs := ((St.nil wB).track h5 (by simp)).track hb (by simpa using hbt)
      rw [← hdl] at hlen
      simp only [RB.list, List.length_append, List.length_cons] at hlen
      repeat' (first | refine vs (k := ?_) | refine ps (k := ?_) | (refine st hs (k := ?_); intro w hs) | (refine stA hs (k := ?_); intro w hs) | (refine al hs (k := ?_); intro b w hz hs) | (refine bx hs (k := ?_); intro b w hz hs) | (refine bs hs (k := ?_); intro b w hz hs) | refine XS.nil ?_ | refine then_of ?_ | refine xc_seq ?_ | (refine xc_region ?_ ?_; exact rfl) | refine xc_block ?_ | refine block_normal ?_ | refine xc_ret ?_ | refine then_ret ?_ | refine block_ret ?_ | refine xc_skip ?_ | refine xc_exit ?_ | refine then_exit ?_ | refine loopS_exit ?_ | refine loopS_ret ?_ | refine cutB_ret ?_ | refine cutN_ret ?_ | refine cutN_exit ?_ | refine block_exit ?_ | (refine block_other ?_ ?_; exact rfl) | (refine xc_true ?_ ?_; exact rfl) | (refine xc_false ?_ ?_; exact rfl) | ((with_reducible apply xs_guard); exact rfl; exact rfl; intro c hc; (fail_if_success (have : true = c := hc)); (fail_if_success (have : false = c := hc)); cases c) | (refine xc_if rfl (fun hc => ?_) (fun hc => ?_)) | (refine xc_cond rfl (fun hc => ?_) (fun hc => ?_)))
      refine dr [] hs (k := ?_); intro hX w hs
      refine tk 0 hX (k := ?_)
      refine tk 1 hX (k := ?_)
      refine tk 2 hX (k := ?_)
      refine tk 3 hX (k := ?_)
      refine tk 4 hX (k := ?_)
      refine tk 5 hX (k := ?_)
      refine tk 6 hX (k := ?_)
      refine tk 7 hX (k := ?_)
      refine tk 8 hX (k := ?_)
      refine dt 9 hX (k := ?_)
      (with_reducible apply xs_call); exact rfl; exact rfl; exact less_ret y2 x _
      rintro v w' ⟨rfl, ho⟩; replace hs := hs.call0 ho
      repeat' (first | refine vs (k := ?_) | refine ps (k := ?_) | (refine st hs (k := ?_); intro w hs) | (refine stA hs (k := ?_); intro w hs) | (refine al hs (k := ?_); intro b w hz hs) | (refine bx hs (k := ?_); intro b w hz hs) | (refine bs hs (k := ?_); intro b w hz hs) | refine XS.nil ?_ | refine then_of ?_ | refine xc_seq ?_ | (refine xc_region ?_ ?_; exact rfl) | refine xc_block ?_ | refine block_normal ?_ | refine xc_ret ?_ | refine then_ret ?_ | refine block_ret ?_ | refine xc_skip ?_ | refine xc_exit ?_ | refine then_exit ?_ | refine loopS_exit ?_ | refine loopS_ret ?_ | refine cutB_ret ?_ | refine cutN_ret ?_ | refine cutN_exit ?_ | refine block_exit ?_ | (refine block_other ?_ ?_; exact rfl) | (refine xc_true ?_ ?_; exact rfl) | (refine xc_false ?_ ?_; exact rfl) | ((with_reducible apply xs_guard); exact rfl; exact rfl; intro c hc; (fail_if_success (have : true = c := hc)); (fail_if_success (have : false = c := hc)); cases c) | (refine xc_if rfl (fun hc => ?_) (fun hc => ?_)) | (refine xc_cond rfl (fun hc => ?_) (fun hc => ?_)))
      refine dn (k := ?_)
      refine en (k := ?_)
      generalize hq3 : decide (y2 < x) = q3
      rw [show ltI y2 x = q3 from hq3] at hc
      have ho1 : Only [] wB _ := hs.onlyF [] (by simp [h5, hb]) (by simp [D0])
      have hlw := hl.keep ho1 (Nodes.nil _) (by simp)
      have hrw := hr.keep ho1 (Nodes.nil _) (by simp)
      have hbw := hs.get At.head
      have hTw := hs.get (At.tail At.head)
      have hO1 := h4.step ho1 (by simp)
      have hndr : fr.Nodup := by simp only [List.nodup_cons, List.nodup_append] at h2; exact h2.2.2.1
      cases q3
      · rw [cond_false] at hc
        obtain ⟨m, hm⟩ : ∃ m, RB.least r2 = some m := by
          cases hm : RB.least r2 with
          | none => rw [hm] at hc; cases hc
          | some m => exact ⟨m, rfl⟩
        rw [hm] at hc
        obtain ⟨r', hr', rfl⟩ := Option.map_eq_some_iff.1 hc
        clear hs
        have hs := (St.nil w').track hbw (by simp)
        repeat' (first | refine vs (k := ?_) | refine ps (k := ?_) | (refine st hs (k := ?_); intro w hs) | (refine stA hs (k := ?_); intro w hs) | (refine al hs (k := ?_); intro b w hz hs) | (refine bx hs (k := ?_); intro b w hz hs) | (refine bs hs (k := ?_); intro b w hz hs) | refine XS.nil ?_ | refine then_of ?_ | refine xc_seq ?_ | (refine xc_region ?_ ?_; exact rfl) | refine xc_block ?_ | refine block_normal ?_ | refine xc_ret ?_ | refine then_ret ?_ | refine block_ret ?_ | refine xc_skip ?_ | refine xc_exit ?_ | refine then_exit ?_ | refine loopS_exit ?_ | refine loopS_ret ?_ | refine cutB_ret ?_ | refine cutN_ret ?_ | refine cutN_exit ?_ | refine block_exit ?_ | (refine block_other ?_ ?_; exact rfl) | (refine xc_true ?_ ?_; exact rfl) | (refine xc_false ?_ ?_; exact rfl) | ((with_reducible apply xs_guard); exact rfl; exact rfl; intro c hc; (fail_if_success (have : true = c := hc)); (fail_if_success (have : false = c := hc)); cases c) | (refine xc_if rfl (fun hc => ?_) (fun hc => ?_)) | (refine xc_cond rfl (fun hc => ?_) (fun hc => ?_)))
        refine xc_cutB (fun q : Nat => [(0, .pointer (some ⟨tb, 0, none⟩)), (1, .pointer (some ⟨b, 0, none⟩)), (2, .int .i64 x), (6, .pointer none), (7, .pointer (some ⟨q, 0, none⟩))]) (fun q w2 => Only [] w' w2 ∧ q ∈ fr ∧ ∃ av' pl' pr' c', w'.heap[q]? = some (nodeO m av' pl' pr' c')) ?_ ?_
        · refine xc_loopS (fun (s : RB Int × Option Addr) => [(0, .pointer (some ⟨tb, 0, none⟩)), (1, .pointer (some ⟨b, 0, none⟩)), (2, .int .i64 x), (6, .pointer none), (7, .pointer s.2)])
            (fun s w2 => Only [] w' w2 ∧ RB.least s.1 = some m ∧ ∃ fps, TreeAt w' s.1 s.2 fps ∧ ∀ k ∈ fps, k ∈ fr)
            (fun s => s.1.list.length) (r2, pr) (by (repeat (first | exact agree_nil | (apply agree_cons; exact rfl)))) ⟨hs.onlyF [] (by simp [hbw]) (by simp [D0]), hm, fr, hrw, fun k hk => hk⟩ fun s env w2 ⟨g1, g2, fps, g3, g4⟩ => ?_
          clear hs
          obtain ⟨s, ps⟩ := s
          dsimp only at g2 g3 ⊢
          cases s with
          | nil => cases g2
          | node sl sz sr sc =>
          obtain ⟨q, avq, pql, pqr, fql, fqr, rfl, rfl, hqb, hqa, hql, hqr⟩ := g3
          have hq2 := g1.block hqb (by simp)
          have hs := (St.nil w2).track hq2 (by simp)
          cases sl with
          | nil =>
            obtain ⟨rfl, rfl⟩ := hql
            simp only [RB.least, Option.some.injEq] at g2
            subst g2
            repeat' (first | refine vs (k := ?_) | refine ps (k := ?_) | (refine st hs (k := ?_); intro w hs) | (refine stA hs (k := ?_); intro w hs) | (refine al hs (k := ?_); intro b w hz hs) | (refine bx hs (k := ?_); intro b w hz hs) | (refine bs hs (k := ?_); intro b w hz hs) | refine XS.nil ?_ | refine then_of ?_ | refine xc_seq ?_ | (refine xc_region ?_ ?_; exact rfl) | refine xc_block ?_ | refine block_normal ?_ | refine xc_ret ?_ | refine then_ret ?_ | refine block_ret ?_ | refine xc_skip ?_ | refine xc_exit ?_ | refine then_exit ?_ | refine loopS_exit ?_ | refine loopS_ret ?_ | refine cutB_ret ?_ | refine cutN_ret ?_ | refine cutN_exit ?_ | refine block_exit ?_ | (refine block_other ?_ ?_; exact rfl) | (refine xc_true ?_ ?_; exact rfl) | (refine xc_false ?_ ?_; exact rfl) | ((with_reducible apply xs_guard); exact rfl; exact rfl; intro c hc; (fail_if_success (have : true = c := hc)); (fail_if_success (have : false = c := hc)); cases c) | (refine xc_if rfl (fun hc => ?_) (fun hc => ?_)) | (refine xc_cond rfl (fun hc => ?_) (fun hc => ?_)))
            exact cutB_exit q (by (repeat (first | exact agree_nil | (apply agree_cons; exact rfl)))) ⟨g1.step (hs.onlyF [] (by simp [hq2]) (by simp [D0])) (by simp), g4 q List.mem_cons_self, _, _, _, _, hqb⟩
          | node a1 a2 a3 a4 =>
            have hql0 := hql
            obtain ⟨_, _, _, _, _, _, rfl, _⟩ := hql
            repeat' (first | refine vs (k := ?_) | refine ps (k := ?_) | (refine st hs (k := ?_); intro w hs) | (refine stA hs (k := ?_); intro w hs) | (refine al hs (k := ?_); intro b w hz hs) | (refine bx hs (k := ?_); intro b w hz hs) | (refine bs hs (k := ?_); intro b w hz hs) | refine XS.nil ?_ | refine then_of ?_ | refine xc_seq ?_ | (refine xc_region ?_ ?_; exact rfl) | refine xc_block ?_ | refine block_normal ?_ | refine xc_ret ?_ | refine then_ret ?_ | refine block_ret ?_ | refine xc_skip ?_ | refine xc_exit ?_ | refine then_exit ?_ | refine loopS_exit ?_ | refine loopS_ret ?_ | refine cutB_ret ?_ | refine cutN_ret ?_ | refine cutN_exit ?_ | refine block_exit ?_ | (refine block_other ?_ ?_; exact rfl) | (refine xc_true ?_ ?_; exact rfl) | (refine xc_false ?_ ?_; exact rfl) | ((with_reducible apply xs_guard); exact rfl; exact rfl; intro c hc; (fail_if_success (have : true = c := hc)); (fail_if_success (have : false = c := hc)); cases c) | (refine xc_if rfl (fun hc => ?_) (fun hc => ?_)) | (refine xc_cond rfl (fun hc => ?_) (fun hc => ?_)))
            exact loopS_next (.node a1 a2 a3 a4, _) (by simp only [RB.list, List.length_append, List.length_cons]; omega) (by (repeat (first | exact agree_nil | (apply agree_cons; exact rfl)))) ⟨g1.step (hs.onlyF [] (by simp [hq2]) (by simp [D0])) (by simp), g2, fql, hql0, fun k hk => g4 k (List.mem_cons_of_mem _ (List.mem_append_left _ hk))⟩
        · clear hs
          rintro q env w2 ⟨g1, g2, avq, plq, prq, cq, g3⟩
          have hqb : q ≠ b := fun e => by subst e; simp [g2] at h2
          have hb2 := g1.block hbw (by simp)
          have hq2 := g1.block g3 (by simp)
          have hs := ((St.nil w2).track hb2 (by simp)).track hq2 (by simpa using hqb)
          repeat' (first | refine vs (k := ?_) | refine ps (k := ?_) | (refine st hs (k := ?_); intro w hs) | (refine stA hs (k := ?_); intro w hs) | (refine al hs (k := ?_); intro b w hz hs) | (refine bx hs (k := ?_); intro b w hz hs) | (refine bs hs (k := ?_); intro b w hz hs) | refine XS.nil ?_ | refine then_of ?_ | refine xc_seq ?_ | (refine xc_region ?_ ?_; exact rfl) | refine xc_block ?_ | refine block_normal ?_ | refine xc_ret ?_ | refine then_ret ?_ | refine block_ret ?_ | refine xc_skip ?_ | refine xc_exit ?_ | refine then_exit ?_ | refine loopS_exit ?_ | refine loopS_ret ?_ | refine cutB_ret ?_ | refine cutN_ret ?_ | refine cutN_exit ?_ | refine block_exit ?_ | (refine block_other ?_ ?_; exact rfl) | (refine xc_true ?_ ?_; exact rfl) | (refine xc_false ?_ ?_; exact rfl) | ((with_reducible apply xs_guard); exact rfl; exact rfl; intro c hc; (fail_if_success (have : true = c := hc)); (fail_if_success (have : false = c := hc)); cases c) | (refine xc_if rfl (fun hc => ?_) (fun hc => ?_)) | (refine xc_cond rfl (fun hc => ?_) (fun hc => ?_)))
          have ho2 : Only [b] w2 _ := hs.onlyF [b] (by simp [hq2]) (by simp [D0])
          have hN : Nodes w2 [b] := Nodes.cons hb2 (Nodes.nil _)
          have hbn : b ∉ fl ∧ b ∉ fr := by simp only [List.nodup_cons, List.mem_append, not_or] at h2; exact h2.1
          have hl3 := (hlw.keep g1 (Nodes.nil _) (by simp)).keep ho2 hN (fun k hk hm => by obtain rfl := List.mem_singleton.1 hm; exact hbn.1 hk)
          have hr3 := (hrw.keep g1 (Nodes.nil _) (by simp)).keep ho2 hN (fun k hk hm => by obtain rfl := List.mem_singleton.1 hm; exact hbn.2 hk)
          have hb3 := hs.get (At.tail At.head)
          have hT3 := head_keep (head_keep hTw g1 (Nodes.nil _)) ho2 hN
          have hO3 := (hO1.step g1 (by simp)).step ho2 (fun k hk => by obtain rfl := List.mem_singleton.1 hk; exact h3 k List.mem_cons_self)
          (with_reducible apply xs_call); exact rfl; exact rfl; exact cutMin_ret tb p0 n0 k r2 r' pr fr _ hT3 hr3 hndr (by omega) hr'
          rintro v w4 hk
          obtain ⟨p', hv⟩ : ∃ p', v = .pointer p' := by obtain ⟨p', _, hv, _⟩ := hk; exact ⟨p', hv⟩
          subst hv
          obtain ⟨_, _, _, _, _, _, k4⟩ := id hk
          have hT4 := head_keep hT3 k4 hr3.nodes
          have hb4 := k4.block hb3 hbn.2
          clear hs
          have hs := (St.nil w4).track hb4 (by simp)
          repeat' (first | refine vs (k := ?_) | refine ps (k := ?_) | (refine st hs (k := ?_); intro w hs) | (refine stA hs (k := ?_); intro w hs) | (refine al hs (k := ?_); intro b w hz hs) | (refine bx hs (k := ?_); intro b w hz hs) | (refine bs hs (k := ?_); intro b w hz hs) | refine XS.nil ?_ | refine then_of ?_ | refine xc_seq ?_ | (refine xc_region ?_ ?_; exact rfl) | refine xc_block ?_ | refine block_normal ?_ | refine xc_ret ?_ | refine then_ret ?_ | refine block_ret ?_ | refine xc_skip ?_ | refine xc_exit ?_ | refine then_exit ?_ | refine loopS_exit ?_ | refine loopS_ret ?_ | refine cutB_ret ?_ | refine cutN_ret ?_ | refine cutN_exit ?_ | refine block_exit ?_ | (refine block_other ?_ ?_; exact rfl) | (refine xc_true ?_ ?_; exact rfl) | (refine xc_false ?_ ?_; exact rfl) | ((with_reducible apply xs_guard); exact rfl; exact rfl; intro c hc; (fail_if_success (have : true = c := hc)); (fail_if_success (have : false = c := hc)); cases c) | (refine xc_if rfl (fun hc => ?_) (fun hc => ?_)) | (refine xc_cond rfl (fun hc => ?_) (fun hc => ?_)))
          have ho5 : Only [b] w4 _ := hs.onlyF [b] (by simp) (by simp [D0])
          obtain ⟨fp2, s1, s2, s3, s4⟩ := graftR hb3 hl3 hr3.nodes h2 hk ho5 (hs.get At.head)
          have hln := cutMin_len k r2 r' hr'
          (with_reducible apply xs_call); exact rfl; exact rfl; exact mend_ret tb p0 n0 _ m _ c2 _ _ _ (head_keep hT4 ho5 (Nodes.cons hb4 (Nodes.nil _))) s1 s2 (by simp only [List.length_append, List.length_cons]; omega)
          rintro v w5 hm
          have hO := hO3.step s4 h3
          have hm2 := hm.up hO (sub_up h3 s3 hO3.size)
          have hs := St.nil w5
          repeat' (first | refine vs (k := ?_) | refine ps (k := ?_) | (refine st hs (k := ?_); intro w hs) | (refine stA hs (k := ?_); intro w hs) | (refine al hs (k := ?_); intro b w hz hs) | (refine bx hs (k := ?_); intro b w hz hs) | (refine bs hs (k := ?_); intro b w hz hs) | refine XS.nil ?_ | refine then_of ?_ | refine xc_seq ?_ | (refine xc_region ?_ ?_; exact rfl) | refine xc_block ?_ | refine block_normal ?_ | refine xc_ret ?_ | refine then_ret ?_ | refine block_ret ?_ | refine xc_skip ?_ | refine xc_exit ?_ | refine then_exit ?_ | refine loopS_exit ?_ | refine loopS_ret ?_ | refine cutB_ret ?_ | refine cutN_ret ?_ | refine cutN_exit ?_ | refine block_exit ?_ | (refine block_other ?_ ?_; exact rfl) | (refine xc_true ?_ ?_; exact rfl) | (refine xc_false ?_ ?_; exact rfl) | ((with_reducible apply xs_guard); exact rfl; exact rfl; intro c hc; (fail_if_success (have : true = c := hc)); (fail_if_success (have : false = c := hc)); cases c) | (refine xc_if rfl (fun hc => ?_) (fun hc => ?_)) | (refine xc_cond rfl (fun hc => ?_) (fun hc => ?_)))
          first | refine rt (hq := ?_) | refine rt' (hq := ?_)
          exact hm2
      · rw [cond_true] at hc
        obtain ⟨r', hr', rfl⟩ := Option.map_eq_some_iff.1 hc
        repeat' (first | refine vs (k := ?_) | refine ps (k := ?_) | (refine st hs (k := ?_); intro w hs) | (refine stA hs (k := ?_); intro w hs) | (refine al hs (k := ?_); intro b w hz hs) | (refine bx hs (k := ?_); intro b w hz hs) | (refine bs hs (k := ?_); intro b w hz hs) | refine XS.nil ?_ | refine then_of ?_ | refine xc_seq ?_ | (refine xc_region ?_ ?_; exact rfl) | refine xc_block ?_ | refine block_normal ?_ | refine xc_ret ?_ | refine then_ret ?_ | refine block_ret ?_ | refine xc_skip ?_ | refine xc_exit ?_ | refine then_exit ?_ | refine loopS_exit ?_ | refine loopS_ret ?_ | refine cutB_ret ?_ | refine cutN_ret ?_ | refine cutN_exit ?_ | refine block_exit ?_ | (refine block_other ?_ ?_; exact rfl) | (refine xc_true ?_ ?_; exact rfl) | (refine xc_false ?_ ?_; exact rfl) | ((with_reducible apply xs_guard); exact rfl; exact rfl; intro c hc; (fail_if_success (have : true = c := hc)); (fail_if_success (have : false = c := hc)); cases c) | (refine xc_if rfl (fun hc => ?_) (fun hc => ?_)) | (refine xc_cond rfl (fun hc => ?_) (fun hc => ?_)))
        (with_reducible apply xs_call); exact rfl; exact rfl; exact cut_ret tb p0 n0 x k r2 r' pr fr _ hTw hrw hndr (by omega) hr'
        rintro v w4 hk
        obtain ⟨p', hv⟩ : ∃ p', v = .pointer p' := by obtain ⟨p', _, hv, _⟩ := hk; exact ⟨p', hv⟩
        subst hv
        obtain ⟨_, _, _, _, _, _, k4⟩ := id hk
        have hT1 := head_keep hTw k4 hrw.nodes
        have hb1 := k4.block hbw (fun h => by simp [h] at h2)
        clear hs
        have hs := (St.nil w4).track hb1 (by simp)
        repeat' (first | refine vs (k := ?_) | refine ps (k := ?_) | (refine st hs (k := ?_); intro w hs) | (refine stA hs (k := ?_); intro w hs) | (refine al hs (k := ?_); intro b w hz hs) | (refine bx hs (k := ?_); intro b w hz hs) | (refine bs hs (k := ?_); intro b w hz hs) | refine XS.nil ?_ | refine then_of ?_ | refine xc_seq ?_ | (refine xc_region ?_ ?_; exact rfl) | refine xc_block ?_ | refine block_normal ?_ | refine xc_ret ?_ | refine then_ret ?_ | refine block_ret ?_ | refine xc_skip ?_ | refine xc_exit ?_ | refine then_exit ?_ | refine loopS_exit ?_ | refine loopS_ret ?_ | refine cutB_ret ?_ | refine cutN_ret ?_ | refine cutN_exit ?_ | refine block_exit ?_ | (refine block_other ?_ ?_; exact rfl) | (refine xc_true ?_ ?_; exact rfl) | (refine xc_false ?_ ?_; exact rfl) | ((with_reducible apply xs_guard); exact rfl; exact rfl; intro c hc; (fail_if_success (have : true = c := hc)); (fail_if_success (have : false = c := hc)); cases c) | (refine xc_if rfl (fun hc => ?_) (fun hc => ?_)) | (refine xc_cond rfl (fun hc => ?_) (fun hc => ?_)))
        have ho3 : Only [b] w4 _ := hs.onlyF [b] (by simp) (by simp [D0])
        obtain ⟨fp2, s1, s2, s3, s4⟩ := graftR hbw hlw hrw.nodes h2 hk ho3 (hs.get At.head)
        have hln := cut_len x k r2 r' hr'
        (with_reducible apply xs_call); exact rfl; exact rfl; exact mend_ret tb p0 n0 _ y2 _ c2 _ _ _ (head_keep hT1 ho3 (Nodes.cons hb1 (Nodes.nil _))) s1 s2 (by simp only [List.length_append, List.length_cons]; omega)
        rintro v w3 hm
        have hm2 := hm.up (hO1.step s4 h3) (sub_up h3 s3 hO1.size)
        have hs := St.nil w3
        repeat' (first | refine vs (k := ?_) | refine ps (k := ?_) | (refine st hs (k := ?_); intro w hs) | (refine stA hs (k := ?_); intro w hs) | (refine al hs (k := ?_); intro b w hz hs) | (refine bx hs (k := ?_); intro b w hz hs) | (refine bs hs (k := ?_); intro b w hz hs) | refine XS.nil ?_ | refine then_of ?_ | refine xc_seq ?_ | (refine xc_region ?_ ?_; exact rfl) | refine xc_block ?_ | refine block_normal ?_ | refine xc_ret ?_ | refine then_ret ?_ | refine block_ret ?_ | refine xc_skip ?_ | refine xc_exit ?_ | refine then_exit ?_ | refine loopS_exit ?_ | refine loopS_ret ?_ | refine cutB_ret ?_ | refine cutN_ret ?_ | refine cutN_exit ?_ | refine block_exit ?_ | (refine block_other ?_ ?_; exact rfl) | (refine xc_true ?_ ?_; exact rfl) | (refine xc_false ?_ ?_; exact rfl) | ((with_reducible apply xs_guard); exact rfl; exact rfl; intro c hc; (fail_if_success (have : true = c := hc)); (fail_if_success (have : false = c := hc)); cases c) | (refine xc_if rfl (fun hc => ?_) (fun hc => ?_)) | (refine xc_cond rfl (fun hc => ?_) (fun hc => ?_)))
        first | refine rt (hq := ?_) | refine rt' (hq := ?_)
        exact hm2
    · rw [cond_true] at hc
      cases l with
      | nil => cases hc
      | node ll z lr lc =>
      simp only [RB.isNil, cond_false] at hc
      have hl0 := hl1
      obtain ⟨u, avu, pll, plr, fll, flr, rfl, rfl, hu, hau, hll, hlr⟩ := hl1
      have hub : u ≠ b := fun e => by subst e; rw [hf] at hnd; simp at hnd
      have hs := ((St.nil w1).track hb1 (by simp)).track hu (by simpa using hub)
      repeat' (first | refine vs (k := ?_) | refine ps (k := ?_) | (refine st hs (k := ?_); intro w hs) | (refine stA hs (k := ?_); intro w hs) | (refine al hs (k := ?_); intro b w hz hs) | (refine bx hs (k := ?_); intro b w hz hs) | (refine bs hs (k := ?_); intro b w hz hs) | refine XS.nil ?_ | refine then_of ?_ | refine xc_seq ?_ | refine xc_block ?_ | refine block_normal ?_ | refine xc_ret ?_ | refine then_ret ?_ | refine block_ret ?_ | refine xc_skip ?_ | refine xc_exit ?_ | refine then_exit ?_ | refine loopS_exit ?_ | refine loopS_ret ?_ | refine cutB_ret ?_ | refine cutN_ret ?_ | refine cutN_exit ?_ | refine block_exit ?_ | (refine block_other ?_ ?_; exact rfl) | (refine xc_true ?_ ?_; exact rfl) | (refine xc_false ?_ ?_; exact rfl) | ((with_reducible apply xs_guard); exact rfl; exact rfl; intro c hc; (fail_if_success (have : true = c := hc)); (fail_if_success (have : false = c := hc)); cases c) | (refine xc_if rfl (fun hc => ?_) (fun hc => ?_)) | (refine xc_cond rfl (fun hc => ?_) (fun hc => ?_)))
      refine xc_cutN (fun _ : Unit => [(0, .pointer (some ⟨tb, 0, none⟩)), (1, .pointer (some ⟨b, 0, none⟩)), (2, .int .i64 x), (6, .pointer none), (34, .bool (!lc && !ll.red))]) (fun _ w => Has w0 tb p0 n0 fp (.node (.node ll z lr lc) y r c) (some ⟨b, 0, none⟩) w) ?_ ?_
      · repeat' (first | refine vs (k := ?_) | refine ps (k := ?_) | (refine st hs (k := ?_); intro w hs) | (refine stA hs (k := ?_); intro w hs) | (refine al hs (k := ?_); intro b w hz hs) | (refine bx hs (k := ?_); intro b w hz hs) | (refine bs hs (k := ?_); intro b w hz hs) | refine XS.nil ?_ | refine then_of ?_ | refine xc_seq ?_ | (refine xc_region ?_ ?_; exact rfl) | refine xc_block ?_ | refine block_normal ?_ | refine xc_ret ?_ | refine then_ret ?_ | refine block_ret ?_ | refine xc_skip ?_ | refine xc_exit ?_ | refine then_exit ?_ | refine loopS_exit ?_ | refine loopS_ret ?_ | refine cutB_ret ?_ | refine cutN_ret ?_ | refine cutN_exit ?_ | refine block_exit ?_ | (refine block_other ?_ ?_; exact rfl) | (refine xc_true ?_ ?_; exact rfl) | (refine xc_false ?_ ?_; exact rfl) | ((with_reducible apply xs_guard); exact rfl; exact rfl; intro c hc; (fail_if_success (have : true = c := hc)); (fail_if_success (have : false = c := hc)); cases c) | (refine xc_if rfl (fun hc => ?_) (fun hc => ?_)) | (refine xc_cond rfl (fun hc => ?_) (fun hc => ?_)))
        have ho2 : Only [] w1 _ := hs.onlyF [] (by simp [hb1, hu]) (by simp [D0])
        (with_reducible apply xs_call); exact rfl; exact rfl; exact isRed_ret _ _ _ _ (hl0.keep ho2 (Nodes.nil _) (by simp))
        rintro v w' ⟨rfl, ho⟩; replace hs := hs.call0 ho
        rw [RB.red_node]
        cases lc
        · repeat' (first | refine vs (k := ?_) | refine ps (k := ?_) | (refine st hs (k := ?_); intro w hs) | (refine stA hs (k := ?_); intro w hs) | (refine al hs (k := ?_); intro b w hz hs) | (refine bx hs (k := ?_); intro b w hz hs) | (refine bs hs (k := ?_); intro b w hz hs) | refine XS.nil ?_ | refine then_of ?_ | refine xc_seq ?_ | (refine xc_region ?_ ?_; exact rfl) | refine xc_block ?_ | refine block_normal ?_ | refine xc_ret ?_ | refine then_ret ?_ | refine block_ret ?_ | refine xc_skip ?_ | refine xc_exit ?_ | refine then_exit ?_ | refine loopS_exit ?_ | refine loopS_ret ?_ | refine cutB_ret ?_ | refine cutN_ret ?_ | refine cutN_exit ?_ | refine block_exit ?_ | (refine block_other ?_ ?_; exact rfl) | (refine xc_true ?_ ?_; exact rfl) | (refine xc_false ?_ ?_; exact rfl) | ((with_reducible apply xs_guard); exact rfl; exact rfl; intro c hc; (fail_if_success (have : true = c := hc)); (fail_if_success (have : false = c := hc)); cases c) | (refine xc_if rfl (fun hc => ?_) (fun hc => ?_)) | (refine xc_cond rfl (fun hc => ?_) (fun hc => ?_)))
          have ho2 : Only [] w1 _ := hs.onlyF [] (by simp [hb1, hu]) (by simp [D0])
          (with_reducible apply xs_call); exact rfl; exact rfl; exact isRed_ret _ _ _ _ (hll.keep ho2 (Nodes.nil _) (by simp))
          rintro v w' ⟨rfl, ho⟩; replace hs := hs.call0 ho
          generalize hq2 : ll.red = q2
          repeat' (first | refine vs (k := ?_) | refine ps (k := ?_) | (refine st hs (k := ?_); intro w hs) | (refine stA hs (k := ?_); intro w hs) | (refine al hs (k := ?_); intro b w hz hs) | (refine bx hs (k := ?_); intro b w hz hs) | (refine bs hs (k := ?_); intro b w hz hs) | refine XS.nil ?_ | refine then_of ?_ | refine xc_seq ?_ | (refine xc_region ?_ ?_; exact rfl) | refine xc_block ?_ | refine block_normal ?_ | refine xc_ret ?_ | refine then_ret ?_ | refine block_ret ?_ | refine xc_skip ?_ | refine xc_exit ?_ | refine then_exit ?_ | refine loopS_exit ?_ | refine loopS_ret ?_ | refine cutB_ret ?_ | refine cutN_ret ?_ | refine cutN_exit ?_ | refine block_exit ?_ | (refine block_other ?_ ?_; exact rfl) | (refine xc_true ?_ ?_; exact rfl) | (refine xc_false ?_ ?_; exact rfl) | ((with_reducible apply xs_guard); exact rfl; exact rfl; intro c hc; (fail_if_success (have : true = c := hc)); (fail_if_success (have : false = c := hc)); cases c) | (refine xc_if rfl (fun hc => ?_) (fun hc => ?_)) | (refine xc_cond rfl (fun hc => ?_) (fun hc => ?_)))
          exact cutN_normal () (by (repeat (first | exact agree_nil | (apply agree_cons; exact rfl)))) (hH.only (hs.onlyF [] (by simp [hb1, hu]) (by simp [D0])))
        · repeat' (first | refine vs (k := ?_) | refine ps (k := ?_) | (refine st hs (k := ?_); intro w hs) | (refine stA hs (k := ?_); intro w hs) | (refine al hs (k := ?_); intro b w hz hs) | (refine bx hs (k := ?_); intro b w hz hs) | (refine bs hs (k := ?_); intro b w hz hs) | refine XS.nil ?_ | refine then_of ?_ | refine xc_seq ?_ | (refine xc_region ?_ ?_; exact rfl) | refine xc_block ?_ | refine block_normal ?_ | refine xc_ret ?_ | refine then_ret ?_ | refine block_ret ?_ | refine xc_skip ?_ | refine xc_exit ?_ | refine then_exit ?_ | refine loopS_exit ?_ | refine loopS_ret ?_ | refine cutB_ret ?_ | refine cutN_ret ?_ | refine cutN_exit ?_ | refine block_exit ?_ | (refine block_other ?_ ?_; exact rfl) | (refine xc_true ?_ ?_; exact rfl) | (refine xc_false ?_ ?_; exact rfl) | ((with_reducible apply xs_guard); exact rfl; exact rfl; intro c hc; (fail_if_success (have : true = c := hc)); (fail_if_success (have : false = c := hc)); cases c) | (refine xc_if rfl (fun hc => ?_) (fun hc => ?_)) | (refine xc_cond rfl (fun hc => ?_) (fun hc => ?_)))
          exact cutN_normal () (by (repeat (first | exact agree_nil | (apply agree_cons; exact rfl)))) (hH.only (hs.onlyF [] (by simp [hb1, hu]) (by simp [D0])))
      clear hH hs hb1 hl0 hu hau hll hlr hr1 hT1
      rintro _ env w hH
      obtain ⟨d, hd⟩ : ∃ d, RB.downL (.node (.node ll z lr lc) y r c) = some d := by
        cases hd : RB.downL (.node (.node ll z lr lc) y r c) with
        | none => rw [hd] at hc; cases hc
        | some d => exact ⟨d, rfl⟩
      rw [hd] at hc
      have hdl := downL_list hd
      refine xc_cutN (fun s : Option Addr => [(0, .pointer (some ⟨tb, 0, none⟩)), (1, .pointer s), (2, .int .i64 x), (6, .pointer none)]) (fun s w => Has w0 tb p0 n0 fp d s w) ?_ ?_
      · unfold RB.downL at hd
        rw [RB.left_node, RB.red_node, RB.left_node] at hd
        generalize hq : (!lc && !ll.red) = q at *
        cases q
        · repeat' (first | refine vs (k := ?_) | refine ps (k := ?_) | (refine st hs (k := ?_); intro w hs) | (refine stA hs (k := ?_); intro w hs) | (refine al hs (k := ?_); intro b w hz hs) | (refine bx hs (k := ?_); intro b w hz hs) | (refine bs hs (k := ?_); intro b w hz hs) | refine XS.nil ?_ | refine then_of ?_ | refine xc_seq ?_ | (refine xc_region ?_ ?_; exact rfl) | refine xc_block ?_ | refine block_normal ?_ | refine xc_ret ?_ | refine then_ret ?_ | refine block_ret ?_ | refine xc_skip ?_ | refine xc_exit ?_ | refine then_exit ?_ | refine loopS_exit ?_ | refine loopS_ret ?_ | refine cutB_ret ?_ | refine cutN_ret ?_ | refine cutN_exit ?_ | refine block_exit ?_ | (refine block_other ?_ ?_; exact rfl) | (refine xc_true ?_ ?_; exact rfl) | (refine xc_false ?_ ?_; exact rfl) | ((with_reducible apply xs_guard); exact rfl; exact rfl; intro c hc; (fail_if_success (have : true = c := hc)); (fail_if_success (have : false = c := hc)); cases c) | (refine xc_if rfl (fun hc => ?_) (fun hc => ?_)) | (refine xc_cond rfl (fun hc => ?_) (fun hc => ?_)))
          cases hd
          exact cutN_normal _ (by (repeat (first | exact agree_nil | (apply agree_cons; exact rfl)))) hH
        · rw [cond_true] at hd
          cases hbo : RB.both (.node (.node ll z lr lc) y r c)
          · rw [hbo] at hd; cases hd
          rw [hbo, cond_true] at hd
          cases hd
          obtain ⟨⟨fp1, h1, h2, h3, h4⟩, h5⟩ := hH
          have hs := St.nil w
          repeat' (first | refine vs (k := ?_) | refine ps (k := ?_) | (refine st hs (k := ?_); intro w hs) | (refine stA hs (k := ?_); intro w hs) | (refine al hs (k := ?_); intro b w hz hs) | (refine bx hs (k := ?_); intro b w hz hs) | (refine bs hs (k := ?_); intro b w hz hs) | refine XS.nil ?_ | refine then_of ?_ | refine xc_seq ?_ | (refine xc_region ?_ ?_; exact rfl) | refine xc_block ?_ | refine block_normal ?_ | refine xc_ret ?_ | refine then_ret ?_ | refine block_ret ?_ | refine xc_skip ?_ | refine xc_exit ?_ | refine then_exit ?_ | refine loopS_exit ?_ | refine loopS_ret ?_ | refine cutB_ret ?_ | refine cutN_ret ?_ | refine cutN_exit ?_ | refine block_exit ?_ | (refine block_other ?_ ?_; exact rfl) | (refine xc_true ?_ ?_; exact rfl) | (refine xc_false ?_ ?_; exact rfl) | ((with_reducible apply xs_guard); exact rfl; exact rfl; intro c hc; (fail_if_success (have : true = c := hc)); (fail_if_success (have : false = c := hc)); cases c) | (refine xc_if rfl (fun hc => ?_) (fun hc => ?_)) | (refine xc_cond rfl (fun hc => ?_) (fun hc => ?_)))
          (with_reducible apply xs_call); exact rfl; exact rfl; exact redLeft_ret tb p0 n0 _ _ _ _ h5 h1 h2 hlen hbo
          rintro v w' hv
          obtain ⟨p', rfl, hH⟩ := Has.next h1 h3 h4 h5 hv
          have hs := St.nil w'
          repeat' (first | refine vs (k := ?_) | refine ps (k := ?_) | (refine st hs (k := ?_); intro w hs) | (refine stA hs (k := ?_); intro w hs) | (refine al hs (k := ?_); intro b w hz hs) | (refine bx hs (k := ?_); intro b w hz hs) | (refine bs hs (k := ?_); intro b w hz hs) | refine XS.nil ?_ | refine then_of ?_ | refine xc_seq ?_ | (refine xc_region ?_ ?_; exact rfl) | refine xc_block ?_ | refine block_normal ?_ | refine xc_ret ?_ | refine then_ret ?_ | refine block_ret ?_ | refine xc_skip ?_ | refine xc_exit ?_ | refine then_exit ?_ | refine loopS_exit ?_ | refine loopS_ret ?_ | refine cutB_ret ?_ | refine cutN_ret ?_ | refine cutN_exit ?_ | refine block_exit ?_ | (refine block_other ?_ ?_; exact rfl) | (refine xc_true ?_ ?_; exact rfl) | (refine xc_false ?_ ?_; exact rfl) | ((with_reducible apply xs_guard); exact rfl; exact rfl; intro c hc; (fail_if_success (have : true = c := hc)); (fail_if_success (have : false = c := hc)); cases c) | (refine xc_if rfl (fun hc => ?_) (fun hc => ?_)) | (refine xc_cond rfl (fun hc => ?_) (fun hc => ?_)))
          exact cutN_normal p' (by (repeat (first | exact agree_nil | (apply agree_cons; exact rfl)))) hH
      clear hH
      rintro p1 env w hH
      cases d with
      | nil => cases hc
      | node l1 x1 r1 c1 =>
      obtain ⟨l', hl', rfl⟩ := Option.map_eq_some_iff.1 hc
      obtain ⟨⟨fp1, ⟨b, av, pl, pr, fl, fr, rfl, rfl, hb, hav, hl, hr⟩, h2, h3, h4⟩, h5⟩ := hH
      have hbt := head_ne h5 hb
      have hs := (St.nil w).track hb (by simp)
      rw [← hdl] at hlen
      simp only [RB.list, List.length_append, List.length_cons] at hlen
      repeat' (first | refine vs (k := ?_) | refine ps (k := ?_) | (refine st hs (k := ?_); intro w hs) | (refine stA hs (k := ?_); intro w hs) | (refine al hs (k := ?_); intro b w hz hs) | (refine bx hs (k := ?_); intro b w hz hs) | (refine bs hs (k := ?_); intro b w hz hs) | refine XS.nil ?_ | refine then_of ?_ | refine xc_seq ?_ | (refine xc_region ?_ ?_; exact rfl) | refine xc_block ?_ | refine block_normal ?_ | refine xc_ret ?_ | refine then_ret ?_ | refine block_ret ?_ | refine xc_skip ?_ | refine xc_exit ?_ | refine then_exit ?_ | refine loopS_exit ?_ | refine loopS_ret ?_ | refine cutB_ret ?_ | refine cutN_ret ?_ | refine cutN_exit ?_ | refine block_exit ?_ | (refine block_other ?_ ?_; exact rfl) | (refine xc_true ?_ ?_; exact rfl) | (refine xc_false ?_ ?_; exact rfl) | ((with_reducible apply xs_guard); exact rfl; exact rfl; intro c hc; (fail_if_success (have : true = c := hc)); (fail_if_success (have : false = c := hc)); cases c) | (refine xc_if rfl (fun hc => ?_) (fun hc => ?_)) | (refine xc_cond rfl (fun hc => ?_) (fun hc => ?_)))
      have ho1 : Only [] w _ := hs.onlyF [] (by simp [hb]) (by simp [D0])
      have hlw := hl.keep ho1 (Nodes.nil _) (by simp)
      have hrw := hr.keep ho1 (Nodes.nil _) (by simp)
      have hbw := hs.get At.head
      have hTw := head_keep h5 ho1 (Nodes.nil _)
      (with_reducible apply xs_call); exact rfl; exact rfl; exact cut_ret tb p0 n0 x k l1 l' pl fl _ hTw hlw (by simp only [List.nodup_cons, List.nodup_append] at h2; exact h2.2.1) (by omega) hl'
      rintro v w' hk
      obtain ⟨p', hv⟩ : ∃ p', v = .pointer p' := by obtain ⟨p', _, hv, _⟩ := hk; exact ⟨p', hv⟩
      subst hv
      obtain ⟨_, _, _, _, _, _, k4⟩ := id hk
      have hT1 := head_keep hTw k4 hlw.nodes
      have hb1 := k4.block hbw (fun h => by simp [h] at h2)
      clear hs
      have hs := (St.nil w').track hb1 (by simp)
      repeat' (first | refine vs (k := ?_) | refine ps (k := ?_) | (refine st hs (k := ?_); intro w hs) | (refine stA hs (k := ?_); intro w hs) | (refine al hs (k := ?_); intro b w hz hs) | (refine bx hs (k := ?_); intro b w hz hs) | (refine bs hs (k := ?_); intro b w hz hs) | refine XS.nil ?_ | refine then_of ?_ | refine xc_seq ?_ | (refine xc_region ?_ ?_; exact rfl) | refine xc_block ?_ | refine block_normal ?_ | refine xc_ret ?_ | refine then_ret ?_ | refine block_ret ?_ | refine xc_skip ?_ | refine xc_exit ?_ | refine then_exit ?_ | refine loopS_exit ?_ | refine loopS_ret ?_ | refine cutB_ret ?_ | refine cutN_ret ?_ | refine cutN_exit ?_ | refine block_exit ?_ | (refine block_other ?_ ?_; exact rfl) | (refine xc_true ?_ ?_; exact rfl) | (refine xc_false ?_ ?_; exact rfl) | ((with_reducible apply xs_guard); exact rfl; exact rfl; intro c hc; (fail_if_success (have : true = c := hc)); (fail_if_success (have : false = c := hc)); cases c) | (refine xc_if rfl (fun hc => ?_) (fun hc => ?_)) | (refine xc_cond rfl (fun hc => ?_) (fun hc => ?_)))
      have ho3 : Only [b] w' _ := hs.onlyF [b] (by simp) (by simp [D0])
      obtain ⟨fp2, s1, s2, s3, s4⟩ := graftL hbw hlw.nodes hrw h2 hk ho3 (hs.get At.head)
      have hln := cut_len x k l1 l' hl'
      (with_reducible apply xs_call); exact rfl; exact rfl; exact mend_ret tb p0 n0 _ x1 _ c1 _ _ _ (head_keep hT1 ho3 (Nodes.cons hb1 (Nodes.nil _))) s1 s2 (by simp only [List.length_append, List.length_cons]; omega)
      rintro v w3 hm
      have hO := (h4.step ho1 (by simp)).step s4 h3
      have hm2 := hm.up hO (sub_up h3 s3 (h4.step ho1 (by simp)).size)
      have hs := St.nil w3
      repeat' (first | refine vs (k := ?_) | refine ps (k := ?_) | (refine st hs (k := ?_); intro w hs) | (refine stA hs (k := ?_); intro w hs) | (refine al hs (k := ?_); intro b w hz hs) | (refine bx hs (k := ?_); intro b w hz hs) | (refine bs hs (k := ?_); intro b w hz hs) | refine XS.nil ?_ | refine then_of ?_ | refine xc_seq ?_ | (refine xc_region ?_ ?_; exact rfl) | refine xc_block ?_ | refine block_normal ?_ | refine xc_ret ?_ | refine then_ret ?_ | refine block_ret ?_ | refine xc_skip ?_ | refine xc_exit ?_ | refine then_exit ?_ | refine loopS_exit ?_ | refine loopS_ret ?_ | refine cutB_ret ?_ | refine cutN_ret ?_ | refine cutN_exit ?_ | refine block_exit ?_ | (refine block_other ?_ ?_; exact rfl) | (refine xc_true ?_ ?_; exact rfl) | (refine xc_false ?_ ?_; exact rfl) | ((with_reducible apply xs_guard); exact rfl; exact rfl; intro c hc; (fail_if_success (have : true = c := hc)); (fail_if_success (have : false = c := hc)); cases c) | (refine xc_if rfl (fun hc => ?_) (fun hc => ?_)) | (refine xc_cond rfl (fun hc => ?_) (fun hc => ?_)))
      first | refine rt (hq := ?_) | refine rt' (hq := ?_)
      exact hm2
end Go.Proofs.YtjooegonmdmajaaX
