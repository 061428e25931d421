/- rbtree: cutMin. -/
import Derived.Test.YtjooegonmdmajaaRb11
set_option linter.unusedVariables false
set_option linter.unusedSimpArgs false
set_option maxRecDepth 100000
namespace Go.Proofs.YtjooegonmdmajaaX
open Go Go.RowKit
attribute [local irreducible] XS XC XA thenE blockE retE loopE loopS cutB cutN doneE SE
theorem downL_list {t u : RB Int} (h : RB.downL t = some u) : u.list = t.list := by
  unfold RB.downL at h
  cases hq : (!t.left.red && !t.left.left.red)
  · rw [hq, cond_false] at h; cases h; rfl
  · rw [hq, cond_true] at h
    cases hb : RB.both t
    · rw [hb] at h; cases h
    · rw [hb, cond_true] at h; cases h
      exact RB.list_redLeft t
theorem downR_list {t u : RB Int} (h : RB.downR t = some u) : u.list = t.list := by
  unfold RB.downR at h
  cases hq : (!t.right.red && !t.right.left.red)
  · rw [hq, cond_false] at h; cases h; rfl
  · rw [hq, cond_true] at h
    cases hb : RB.both t
    · rw [hb] at h; cases h
    · rw [hb, cond_true] at h; cases h
      exact RB.list_redRight t
theorem cutMin_len : ∀ (k : Nat) (t t' : RB Int), RB.cutMin k t = some t' → t'.list.length ≤ t.list.length
  | 0, t, t', h => by cases h
  | k + 1, t, t', h => by
    simp only [RB.cutMin] at h
    cases h1 : t.isNil
    · rw [h1, cond_false] at h
      cases h2 : t.left.isNil
      · rw [h2, cond_false] at h
        cases hd : RB.downL t with
        | none => rw [hd] at h; cases h
        | some u =>
          rw [hd] at h
          cases u with
          | nil => cases h
          | node l x r c =>
            obtain ⟨l', hl, rfl⟩ := Option.map_eq_some_iff.1 h
            have := cutMin_len k l l' hl
            rw [RB.list_mend, ← downL_list hd]
            simp only [RB.list, List.length_append, List.length_cons]
            omega
      · rw [h2, cond_true] at h; cases h; simp [RB.list]
    · rw [h1, cond_true] at h; cases h
theorem Has.turned {w0 w : World} {tb : Nat} {p0 : Option Addr} {n0 : Int} {fp : List Nat} {t : RB Int} {p : Option Addr} (h : Has w0 tb p0 n0 fp t p w) : Turned w0 fp t (.pointer p) w := by
  obtain ⟨⟨fp', h1, h2, h3, h4⟩, h5⟩ := h
  exact ⟨p, fp', rfl, h1, h2, h3, h4⟩
set_option maxHeartbeats 2000000 in
theorem cutMin_ret (tb : Nat) (p0 : Option Addr) (n0 : Int) : ∀ (k : Nat) (t t' : RB Int) (p : Option Addr) (fp : List Nat) (w0 : World) (hT : w0.heap[tb]? = some (treeO p0 n0)) (h : TreeAt w0 t p fp) (hnd : fp.Nodup) (hlen : t.list.length ≤ 1000000) (hc : RB.cutMin k t = some t'),
    Ret Try.prog 100 #[.pointer (some ⟨tb, 0, none⟩), .pointer p] w0 fun v w' => Turned w0 fp t' v w'
  | 0, t, t', p, fp, w0, hT, h, hnd, hlen, hc => by cases hc
  | k + 1, .nil, t', p, fp, w0, hT, h, hnd, hlen, hc => by cases hc
  | k + 1, .node .nil x r c, t', p, fp, w0, hT, h, hnd, hlen, hc => by
    simp only [RB.cutMin, RB.isNil, RB.left_node, cond_true, cond_false, Option.some.injEq] at hc
    subst hc
    obtain ⟨b, av, pl, pr, fl, fr, rfl, rfl, hb, hav, ⟨rfl, rfl⟩, hr⟩ := h
    have hs := (St.nil w0).track hb (by simp)
    refine ret_of_xc Try.func100 (by kernel_rfl) rfl Try.ntmps100 rfl rfl rfl ?_
    repeat' (first | refine vs (k := ?_) | refine ps (k := ?_) | (refine st hs (k := ?_); intro w hs) | (refine stA hs (k := ?_); intro w hs) | (refine al hs (k := ?_); intro b w hz hs) | (refine bx hs (k := ?_); intro b w hz hs) | (refine bs hs (k := ?_); intro b w hz hs) | refine XS.nil ?_ | refine then_of ?_ | refine xc_seq ?_ | (refine xc_region ?_ ?_; exact rfl) | refine xc_block ?_ | refine block_normal ?_ | refine xc_ret ?_ | refine then_ret ?_ | refine block_ret ?_ | refine xc_skip ?_ | refine xc_exit ?_ | refine then_exit ?_ | refine loopS_exit ?_ | refine loopS_ret ?_ | refine cutB_ret ?_ | refine cutN_ret ?_ | refine cutN_exit ?_ | refine block_exit ?_ | (refine block_other ?_ ?_; exact rfl) | (refine xc_true ?_ ?_; exact rfl) | (refine xc_false ?_ ?_; exact rfl) | ((with_reducible apply xs_guard); exact rfl; exact rfl; intro c hc; (fail_if_success (have : true = c := hc)); (fail_if_success (have : false = c := hc)); cases c) | (refine xc_if rfl (fun hc => ?_) (fun hc => ?_)) | (refine xc_cond rfl (fun hc => ?_) (fun hc => ?_)))
    first | refine rt (hq := ?_) | refine rt' (hq := ?_)
    exact ⟨none, [], rfl, ⟨rfl, rfl⟩, List.nodup_nil, (fun k hk => by cases hk), (hs.onlyF [] (by simp [hb]) (by simp [D0])).weaken (by simp)⟩
  | k + 1, .node (.node ll z lr lc) x r c, t', p, fp, w0, hT, h, hnd, hlen, hc => by
    rw [RB.cutMin] at hc
    simp only [RB.isNil, RB.left_node, cond_false] at hc
    have hH : Has w0 tb p0 n0 fp (.node (.node ll z lr lc) x r c) p w0 := ⟨⟨fp, h, hnd, fun k hk => .inl hk, Only.refl _ _⟩, hT⟩
    obtain ⟨b, av, pl, pr, fl, fr, rfl, hf, hb, hav, hl, hr⟩ := h
    have hl0 := hl
    obtain ⟨u, avu, pll, plr, fll, flr, rfl, rfl, hu, hau, hll, hlr⟩ := hl
    have hub : u ≠ b := fun e => by subst e; rw [hf] at hnd; simp at hnd
    have hs := ((St.nil w0).track hb (by simp)).track hu (by simpa using hub)
    refine ret_of_xc Try.func100 (by kernel_rfl) rfl Try.ntmps100 rfl rfl rfl ?_
    repeat' (first | refine vs (k := ?_) | refine ps (k := ?_) | (refine st hs (k := ?_); intro w hs) | (refine stA hs (k := ?_); intro w hs) | (refine al hs (k := ?_); intro b w hz hs) | (refine bx hs (k := ?_); intro b w hz hs) | (refine bs hs (k := ?_); intro b w hz hs) | refine XS.nil ?_ | refine then_of ?_ | refine xc_seq ?_ | refine xc_block ?_ | refine block_normal ?_ | refine xc_ret ?_ | refine then_ret ?_ | refine block_ret ?_ | refine xc_skip ?_ | refine xc_exit ?_ | refine then_exit ?_ | refine loopS_exit ?_ | refine loopS_ret ?_ | refine cutB_ret ?_ | refine cutN_ret ?_ | refine cutN_exit ?_ | refine block_exit ?_ | (refine block_other ?_ ?_; exact rfl) | (refine xc_true ?_ ?_; exact rfl) | (refine xc_false ?_ ?_; exact rfl) | ((with_reducible apply xs_guard); exact rfl; exact rfl; intro c hc; (fail_if_success (have : true = c := hc)); (fail_if_success (have : false = c := hc)); cases c) | (refine xc_if rfl (fun hc => ?_) (fun hc => ?_)) | (refine xc_cond rfl (fun hc => ?_) (fun hc => ?_)))
    refine xc_region ?_ ?_; exact rfl
    repeat' (first | refine vs (k := ?_) | refine ps (k := ?_) | (refine st hs (k := ?_); intro w hs) | (refine stA hs (k := ?_); intro w hs) | (refine al hs (k := ?_); intro b w hz hs) | (refine bx hs (k := ?_); intro b w hz hs) | (refine bs hs (k := ?_); intro b w hz hs) | refine XS.nil ?_ | refine then_of ?_ | refine xc_seq ?_ | refine xc_block ?_ | refine block_normal ?_ | refine xc_ret ?_ | refine then_ret ?_ | refine block_ret ?_ | refine xc_skip ?_ | refine xc_exit ?_ | refine then_exit ?_ | refine loopS_exit ?_ | refine loopS_ret ?_ | refine cutB_ret ?_ | refine cutN_ret ?_ | refine cutN_exit ?_ | refine block_exit ?_ | (refine block_other ?_ ?_; exact rfl) | (refine xc_true ?_ ?_; exact rfl) | (refine xc_false ?_ ?_; exact rfl) | ((with_reducible apply xs_guard); exact rfl; exact rfl; intro c hc; (fail_if_success (have : true = c := hc)); (fail_if_success (have : false = c := hc)); cases c) | (refine xc_if rfl (fun hc => ?_) (fun hc => ?_)) | (refine xc_cond rfl (fun hc => ?_) (fun hc => ?_)))
    refine xc_region ?_ ?_; exact rfl
    repeat' (first | refine vs (k := ?_) | refine ps (k := ?_) | (refine st hs (k := ?_); intro w hs) | (refine stA hs (k := ?_); intro w hs) | (refine al hs (k := ?_); intro b w hz hs) | (refine bx hs (k := ?_); intro b w hz hs) | (refine bs hs (k := ?_); intro b w hz hs) | refine XS.nil ?_ | refine then_of ?_ | refine xc_seq ?_ | refine xc_block ?_ | refine block_normal ?_ | refine xc_ret ?_ | refine then_ret ?_ | refine block_ret ?_ | refine xc_skip ?_ | refine xc_exit ?_ | refine then_exit ?_ | refine loopS_exit ?_ | refine loopS_ret ?_ | refine cutB_ret ?_ | refine cutN_ret ?_ | refine cutN_exit ?_ | refine block_exit ?_ | (refine block_other ?_ ?_; exact rfl) | (refine xc_true ?_ ?_; exact rfl) | (refine xc_false ?_ ?_; exact rfl) | ((with_reducible apply xs_guard); exact rfl; exact rfl; intro c hc; (fail_if_success (have : true = c := hc)); (fail_if_success (have : false = c := hc)); cases c) | (refine xc_if rfl (fun hc => ?_) (fun hc => ?_)) | (refine xc_cond rfl (fun hc => ?_) (fun hc => ?_)))
    refine xc_cutN (fun _ : Unit => [(0, .pointer (some ⟨tb, 0, none⟩)), (1, .pointer (some ⟨b, 0, none⟩)), (4, .pointer none), (26, .bool (!lc && !ll.red))]) (fun _ w => Has w0 tb p0 n0 fp (.node (.node ll z lr lc) x r c) (some ⟨b, 0, none⟩) w) ?_ ?_
    · repeat' (first | refine vs (k := ?_) | refine ps (k := ?_) | (refine st hs (k := ?_); intro w hs) | (refine stA hs (k := ?_); intro w hs) | (refine al hs (k := ?_); intro b w hz hs) | (refine bx hs (k := ?_); intro b w hz hs) | (refine bs hs (k := ?_); intro b w hz hs) | refine XS.nil ?_ | refine then_of ?_ | refine xc_seq ?_ | (refine xc_region ?_ ?_; exact rfl) | refine xc_block ?_ | refine block_normal ?_ | refine xc_ret ?_ | refine then_ret ?_ | refine block_ret ?_ | refine xc_skip ?_ | refine xc_exit ?_ | refine then_exit ?_ | refine loopS_exit ?_ | refine loopS_ret ?_ | refine cutB_ret ?_ | refine cutN_ret ?_ | refine cutN_exit ?_ | refine block_exit ?_ | (refine block_other ?_ ?_; exact rfl) | (refine xc_true ?_ ?_; exact rfl) | (refine xc_false ?_ ?_; exact rfl) | ((with_reducible apply xs_guard); exact rfl; exact rfl; intro c hc; (fail_if_success (have : true = c := hc)); (fail_if_success (have : false = c := hc)); cases c) | (refine xc_if rfl (fun hc => ?_) (fun hc => ?_)) | (refine xc_cond rfl (fun hc => ?_) (fun hc => ?_)))
      have ho2 : Only [] w0 _ := hs.onlyF [] (by simp [hb, hu]) (by simp [D0])
      (with_reducible apply xs_call); exact rfl; exact rfl; exact isRed_ret _ _ _ _ (hl0.keep ho2 (Nodes.nil _) (by simp))
      rintro v w' ⟨rfl, ho⟩; replace hs := hs.call0 ho
      rw [RB.red_node]
      cases lc
      · repeat' (first | refine vs (k := ?_) | refine ps (k := ?_) | (refine st hs (k := ?_); intro w hs) | (refine stA hs (k := ?_); intro w hs) | (refine al hs (k := ?_); intro b w hz hs) | (refine bx hs (k := ?_); intro b w hz hs) | (refine bs hs (k := ?_); intro b w hz hs) | refine XS.nil ?_ | refine then_of ?_ | refine xc_seq ?_ | (refine xc_region ?_ ?_; exact rfl) | refine xc_block ?_ | refine block_normal ?_ | refine xc_ret ?_ | refine then_ret ?_ | refine block_ret ?_ | refine xc_skip ?_ | refine xc_exit ?_ | refine then_exit ?_ | refine loopS_exit ?_ | refine loopS_ret ?_ | refine cutB_ret ?_ | refine cutN_ret ?_ | refine cutN_exit ?_ | refine block_exit ?_ | (refine block_other ?_ ?_; exact rfl) | (refine xc_true ?_ ?_; exact rfl) | (refine xc_false ?_ ?_; exact rfl) | ((with_reducible apply xs_guard); exact rfl; exact rfl; intro c hc; (fail_if_success (have : true = c := hc)); (fail_if_success (have : false = c := hc)); cases c) | (refine xc_if rfl (fun hc => ?_) (fun hc => ?_)) | (refine xc_cond rfl (fun hc => ?_) (fun hc => ?_)))
        have ho2 : Only [] w0 _ := hs.onlyF [] (by simp [hb, hu]) (by simp [D0])
        (with_reducible apply xs_call); exact rfl; exact rfl; exact isRed_ret _ _ _ _ (hll.keep ho2 (Nodes.nil _) (by simp))
        rintro v w' ⟨rfl, ho⟩; replace hs := hs.call0 ho
        generalize hq2 : ll.red = q2
        repeat' (first | refine vs (k := ?_) | refine ps (k := ?_) | (refine st hs (k := ?_); intro w hs) | (refine stA hs (k := ?_); intro w hs) | (refine al hs (k := ?_); intro b w hz hs) | (refine bx hs (k := ?_); intro b w hz hs) | (refine bs hs (k := ?_); intro b w hz hs) | refine XS.nil ?_ | refine then_of ?_ | refine xc_seq ?_ | (refine xc_region ?_ ?_; exact rfl) | refine xc_block ?_ | refine block_normal ?_ | refine xc_ret ?_ | refine then_ret ?_ | refine block_ret ?_ | refine xc_skip ?_ | refine xc_exit ?_ | refine then_exit ?_ | refine loopS_exit ?_ | refine loopS_ret ?_ | refine cutB_ret ?_ | refine cutN_ret ?_ | refine cutN_exit ?_ | refine block_exit ?_ | (refine block_other ?_ ?_; exact rfl) | (refine xc_true ?_ ?_; exact rfl) | (refine xc_false ?_ ?_; exact rfl) | ((with_reducible apply xs_guard); exact rfl; exact rfl; intro c hc; (fail_if_success (have : true = c := hc)); (fail_if_success (have : false = c := hc)); cases c) | (refine xc_if rfl (fun hc => ?_) (fun hc => ?_)) | (refine xc_cond rfl (fun hc => ?_) (fun hc => ?_)))
        exact cutN_normal () (by (repeat (first | exact agree_nil | (apply agree_cons; exact rfl)))) (hH.only (hs.onlyF [] (by simp [hb, hu]) (by simp [D0])))
      · repeat' (first | refine vs (k := ?_) | refine ps (k := ?_) | (refine st hs (k := ?_); intro w hs) | (refine stA hs (k := ?_); intro w hs) | (refine al hs (k := ?_); intro b w hz hs) | (refine bx hs (k := ?_); intro b w hz hs) | (refine bs hs (k := ?_); intro b w hz hs) | refine XS.nil ?_ | refine then_of ?_ | refine xc_seq ?_ | (refine xc_region ?_ ?_; exact rfl) | refine xc_block ?_ | refine block_normal ?_ | refine xc_ret ?_ | refine then_ret ?_ | refine block_ret ?_ | refine xc_skip ?_ | refine xc_exit ?_ | refine then_exit ?_ | refine loopS_exit ?_ | refine loopS_ret ?_ | refine cutB_ret ?_ | refine cutN_ret ?_ | refine cutN_exit ?_ | refine block_exit ?_ | (refine block_other ?_ ?_; exact rfl) | (refine xc_true ?_ ?_; exact rfl) | (refine xc_false ?_ ?_; exact rfl) | ((with_reducible apply xs_guard); exact rfl; exact rfl; intro c hc; (fail_if_success (have : true = c := hc)); (fail_if_success (have : false = c := hc)); cases c) | (refine xc_if rfl (fun hc => ?_) (fun hc => ?_)) | (refine xc_cond rfl (fun hc => ?_) (fun hc => ?_)))
        exact cutN_normal () (by (repeat (first | exact agree_nil | (apply agree_cons; exact rfl)))) (hH.only (hs.onlyF [] (by simp [hb, hu]) (by simp [D0])))
    clear hH hs hb hav hl0 hu hau hll hlr hr
    rintro _ env w hH
    obtain ⟨d, hd⟩ : ∃ d, RB.downL (.node (.node ll z lr lc) x r c) = some d := by
      cases hd : RB.downL (.node (.node ll z lr lc) x r c) with
      | none => rw [hd] at hc; cases hc
      | some d => exact ⟨d, rfl⟩
    rw [hd] at hc
    have hdl := downL_list hd
    refine xc_cutN (fun s : Option Addr => [(0, .pointer (some ⟨tb, 0, none⟩)), (1, .pointer s), (4, .pointer none)]) (fun s w => Has w0 tb p0 n0 fp d s w) ?_ ?_
    · unfold RB.downL at hd
      rw [RB.left_node, RB.red_node, RB.left_node] at hd
      generalize hq : (!lc && !ll.red) = q at *
      cases q
      · repeat' (first | refine vs (k := ?_) | refine ps (k := ?_) | (refine st hs (k := ?_); intro w hs) | (refine stA hs (k := ?_); intro w hs) | (refine al hs (k := ?_); intro b w hz hs) | (refine bx hs (k := ?_); intro b w hz hs) | (refine bs hs (k := ?_); intro b w hz hs) | refine XS.nil ?_ | refine then_of ?_ | refine xc_seq ?_ | (refine xc_region ?_ ?_; exact rfl) | refine xc_block ?_ | refine block_normal ?_ | refine xc_ret ?_ | refine then_ret ?_ | refine block_ret ?_ | refine xc_skip ?_ | refine xc_exit ?_ | refine then_exit ?_ | refine loopS_exit ?_ | refine loopS_ret ?_ | refine cutB_ret ?_ | refine cutN_ret ?_ | refine cutN_exit ?_ | refine block_exit ?_ | (refine block_other ?_ ?_; exact rfl) | (refine xc_true ?_ ?_; exact rfl) | (refine xc_false ?_ ?_; exact rfl) | ((with_reducible apply xs_guard); exact rfl; exact rfl; intro c hc; (fail_if_success (have : true = c := hc)); (fail_if_success (have : false = c := hc)); cases c) | (refine xc_if rfl (fun hc => ?_) (fun hc => ?_)) | (refine xc_cond rfl (fun hc => ?_) (fun hc => ?_)))
        cases hd
        exact cutN_normal _ (by (repeat (first | exact agree_nil | (apply agree_cons; exact rfl)))) hH
      · rw [cond_true] at hd
        cases hbo : RB.both (.node (.node ll z lr lc) x r c)
        · rw [hbo] at hd; cases hd
        rw [hbo, cond_true] at hd
        cases hd
        obtain ⟨⟨fp1, h1, h2, h3, h4⟩, h5⟩ := hH
        have hs := St.nil w
        repeat' (first | refine vs (k := ?_) | refine ps (k := ?_) | (refine st hs (k := ?_); intro w hs) | (refine stA hs (k := ?_); intro w hs) | (refine al hs (k := ?_); intro b w hz hs) | (refine bx hs (k := ?_); intro b w hz hs) | (refine bs hs (k := ?_); intro b w hz hs) | refine XS.nil ?_ | refine then_of ?_ | refine xc_seq ?_ | (refine xc_region ?_ ?_; exact rfl) | refine xc_block ?_ | refine block_normal ?_ | refine xc_ret ?_ | refine then_ret ?_ | refine block_ret ?_ | refine xc_skip ?_ | refine xc_exit ?_ | refine then_exit ?_ | refine loopS_exit ?_ | refine loopS_ret ?_ | refine cutB_ret ?_ | refine cutN_ret ?_ | refine cutN_exit ?_ | refine block_exit ?_ | (refine block_other ?_ ?_; exact rfl) | (refine xc_true ?_ ?_; exact rfl) | (refine xc_false ?_ ?_; exact rfl) | ((with_reducible apply xs_guard); exact rfl; exact rfl; intro c hc; (fail_if_success (have : true = c := hc)); (fail_if_success (have : false = c := hc)); cases c) | (refine xc_if rfl (fun hc => ?_) (fun hc => ?_)) | (refine xc_cond rfl (fun hc => ?_) (fun hc => ?_)))
        (with_reducible apply xs_call); exact rfl; exact rfl; exact redLeft_ret tb p0 n0 _ _ _ _ h5 h1 h2 hlen hbo
        rintro v w' hv
        obtain ⟨p', rfl, hH⟩ := Has.next h1 h3 h4 h5 hv
        have hs := St.nil w'
        repeat' (first | refine vs (k := ?_) | refine ps (k := ?_) | (refine st hs (k := ?_); intro w hs) | (refine stA hs (k := ?_); intro w hs) | (refine al hs (k := ?_); intro b w hz hs) | (refine bx hs (k := ?_); intro b w hz hs) | (refine bs hs (k := ?_); intro b w hz hs) | refine XS.nil ?_ | refine then_of ?_ | refine xc_seq ?_ | (refine xc_region ?_ ?_; exact rfl) | refine xc_block ?_ | refine block_normal ?_ | refine xc_ret ?_ | refine then_ret ?_ | refine block_ret ?_ | refine xc_skip ?_ | refine xc_exit ?_ | refine then_exit ?_ | refine loopS_exit ?_ | refine loopS_ret ?_ | refine cutB_ret ?_ | refine cutN_ret ?_ | refine cutN_exit ?_ | refine block_exit ?_ | (refine block_other ?_ ?_; exact rfl) | (refine xc_true ?_ ?_; exact rfl) | (refine xc_false ?_ ?_; exact rfl) | ((with_reducible apply xs_guard); exact rfl; exact rfl; intro c hc; (fail_if_success (have : true = c := hc)); (fail_if_success (have : false = c := hc)); cases c) | (refine xc_if rfl (fun hc => ?_) (fun hc => ?_)) | (refine xc_cond rfl (fun hc => ?_) (fun hc => ?_)))
        exact cutN_normal p' (by (repeat (first | exact agree_nil | (apply agree_cons; exact rfl)))) hH
    clear hH
    rintro p1 env w hH
    cases d with
    | nil => cases hc
    | node l1 x1 r1 c1 =>
    obtain ⟨l', hl', rfl⟩ := Option.map_eq_some_iff.1 hc
    obtain ⟨⟨fp1, ⟨b, av, pl, pr, fl, fr, rfl, rfl, hb, hav, hl, hr⟩, h2, h3, h4⟩, h5⟩ := hH
    have hbt := head_ne h5 hb
    have hs := (St.nil w).track hb (by simp)
    rw [← hdl] at hlen
    simp only [RB.list, List.length_append, List.length_cons] at hlen
    repeat' (first | refine vs (k := ?_) | refine ps (k := ?_) | (refine st hs (k := ?_); intro w hs) | (refine stA hs (k := ?_); intro w hs) | (refine al hs (k := ?_); intro b w hz hs) | (refine bx hs (k := ?_); intro b w hz hs) | (refine bs hs (k := ?_); intro b w hz hs) | refine XS.nil ?_ | refine then_of ?_ | refine xc_seq ?_ | (refine xc_region ?_ ?_; exact rfl) | refine xc_block ?_ | refine block_normal ?_ | refine xc_ret ?_ | refine then_ret ?_ | refine block_ret ?_ | refine xc_skip ?_ | refine xc_exit ?_ | refine then_exit ?_ | refine loopS_exit ?_ | refine loopS_ret ?_ | refine cutB_ret ?_ | refine cutN_ret ?_ | refine cutN_exit ?_ | refine block_exit ?_ | (refine block_other ?_ ?_; exact rfl) | (refine xc_true ?_ ?_; exact rfl) | (refine xc_false ?_ ?_; exact rfl) | ((with_reducible apply xs_guard); exact rfl; exact rfl; intro c hc; (fail_if_success (have : true = c := hc)); (fail_if_success (have : false = c := hc)); cases c) | (refine xc_if rfl (fun hc => ?_) (fun hc => ?_)) | (refine xc_cond rfl (fun hc => ?_) (fun hc => ?_)))
    have ho1 : Only [] w _ := hs.onlyF [] (by simp [hb]) (by simp [D0])
    have hlw := hl.keep ho1 (Nodes.nil _) (by simp)
    have hrw := hr.keep ho1 (Nodes.nil _) (by simp)
    have hbw := hs.get At.head
    have hTw := head_keep h5 ho1 (Nodes.nil _)
    (with_reducible apply xs_call); exact rfl; exact rfl; exact cutMin_ret tb p0 n0 k l1 l' pl fl _ hTw hlw (by simp only [List.nodup_cons, List.nodup_append] at h2; exact h2.2.1) (by omega) hl'
    rintro v w' hk
    obtain ⟨p', hv⟩ : ∃ p', v = .pointer p' := by obtain ⟨p', _, hv, _⟩ := hk; exact ⟨p', hv⟩
    subst hv
    obtain ⟨_, _, _, _, _, _, k4⟩ := id hk
    have hT1 := head_keep hTw k4 hlw.nodes
    have hb1 := k4.block hbw (fun h => by simp [h] at h2)
    clear hs
    have hs := (St.nil w').track hb1 (by simp)
    repeat' (first | refine vs (k := ?_) | refine ps (k := ?_) | (refine st hs (k := ?_); intro w hs) | (refine stA hs (k := ?_); intro w hs) | (refine al hs (k := ?_); intro b w hz hs) | (refine bx hs (k := ?_); intro b w hz hs) | (refine bs hs (k := ?_); intro b w hz hs) | refine XS.nil ?_ | refine then_of ?_ | refine xc_seq ?_ | (refine xc_region ?_ ?_; exact rfl) | refine xc_block ?_ | refine block_normal ?_ | refine xc_ret ?_ | refine then_ret ?_ | refine block_ret ?_ | refine xc_skip ?_ | refine xc_exit ?_ | refine then_exit ?_ | refine loopS_exit ?_ | refine loopS_ret ?_ | refine cutB_ret ?_ | refine cutN_ret ?_ | refine cutN_exit ?_ | refine block_exit ?_ | (refine block_other ?_ ?_; exact rfl) | (refine xc_true ?_ ?_; exact rfl) | (refine xc_false ?_ ?_; exact rfl) | ((with_reducible apply xs_guard); exact rfl; exact rfl; intro c hc; (fail_if_success (have : true = c := hc)); (fail_if_success (have : false = c := hc)); cases c) | (refine xc_if rfl (fun hc => ?_) (fun hc => ?_)) | (refine xc_cond rfl (fun hc => ?_) (fun hc => ?_)))
    have ho3 : Only [b] w' _ := hs.onlyF [b] (by simp) (by simp [D0])
    obtain ⟨fp2, s1, s2, s3, s4⟩ := graftL hbw hlw.nodes hrw h2 hk ho3 (hs.get At.head)
    have hln := cutMin_len k l1 l' hl'
    (with_reducible apply xs_call); exact rfl; exact rfl; exact mend_ret tb p0 n0 _ x1 _ c1 _ _ _ (head_keep hT1 ho3 (Nodes.cons hb1 (Nodes.nil _))) s1 s2 (by simp only [List.length_append, List.length_cons]; omega)
    rintro v w3 hm
    have hO := (h4.step ho1 (by simp)).step s4 h3
    have hm2 := hm.up hO (sub_up h3 s3 (h4.step ho1 (by simp)).size)
    have hs := St.nil w3
    repeat' (first | refine vs (k := ?_) | refine ps (k := ?_) | (refine st hs (k := ?_); intro w hs) | (refine stA hs (k := ?_); intro w hs) | (refine al hs (k := ?_); intro b w hz hs) | (refine bx hs (k := ?_); intro b w hz hs) | (refine bs hs (k := ?_); intro b w hz hs) | refine XS.nil ?_ | refine then_of ?_ | refine xc_seq ?_ | (refine xc_region ?_ ?_; exact rfl) | refine xc_block ?_ | refine block_normal ?_ | refine xc_ret ?_ | refine then_ret ?_ | refine block_ret ?_ | refine xc_skip ?_ | refine xc_exit ?_ | refine then_exit ?_ | refine loopS_exit ?_ | refine loopS_ret ?_ | refine cutB_ret ?_ | refine cutN_ret ?_ | refine cutN_exit ?_ | refine block_exit ?_ | (refine block_other ?_ ?_; exact rfl) | (refine xc_true ?_ ?_; exact rfl) | (refine xc_false ?_ ?_; exact rfl) | ((with_reducible apply xs_guard); exact rfl; exact rfl; intro c hc; (fail_if_success (have : true = c := hc)); (fail_if_success (have : false = c := hc)); cases c) | (refine xc_if rfl (fun hc => ?_) (fun hc => ?_)) | (refine xc_cond rfl (fun hc => ?_) (fun hc => ?_)))
    first | refine rt (hq := ?_) | refine rt' (hq := ?_)
    exact hm2
end Go.Proofs.YtjooegonmdmajaaX
