/- rbtree: Has, Insert, Len, New. -/
import Derived.Test.YtjooegonmdmajaaRb5
set_option linter.unusedVariables false
set_option linter.unusedSimpArgs false
set_option maxRecDepth 100000
namespace Go.Proofs.YtjooegonmdmajaaX
open Go Go.RowKit
attribute [local irreducible] XS XC XA thenE blockE retE loopE loopS cutB cutN doneE SE
def RB.has {α : Type} (lt : α → α → Bool) (x : α) : RB α → Bool
  | .nil => false
  | .node l y r _ => bif lt x y then RB.has lt x l else bif lt y x then RB.has lt x r else true
theorem RB.has_iff {α : Type} {lt : α → α → Bool} {S : α → Prop} (ho : OrdOn lt S) {x : α} (hx : S x) : ∀ t : RB α, RB.Srt lt t.list → (∀ z ∈ t.list, S z) → (RB.has lt x t = true ↔ x ∈ t.list)
  | .nil, _, _ => by simp [RB.has, RB.list]
  | .node l y r c, hs, hS => by
    obtain ⟨h1, h2, h3, h4, h5⟩ := RB.srt_node hs
    simp only [RB.list, List.mem_append, List.mem_cons] at hS
    have hl := RB.has_iff ho hx l h1 fun z hz => hS z (.inl hz)
    have hr := RB.has_iff ho hx r h2 fun z hz => hS z (.inr (.inr hz))
    have hy := hS y (.inr (.inl rfl))
    simp only [RB.has, RB.list, List.mem_append, List.mem_cons]
    cases hxy : lt x y
    · cases hyx : lt y x
      · simp only [cond_false, true_iff]
        exact .inr (.inl (ho.tri x y hx hy hxy hyx))
      · simp only [cond_false, cond_true, hr]
        constructor
        · exact fun h => .inr (.inr h)
        · rintro (h | rfl | h)
          · have := RB.asym ho hx hy (h3 x h); rw [hyx] at this; cases this
          · rw [ho.irr _ hx] at hyx; cases hyx
          · exact h
    · simp only [cond_true, hl]
      constructor
      · exact .inl
      · rintro (h | rfl | h)
        · exact h
        · rw [ho.irr _ hx] at hxy; cases hxy
        · have := RB.asym ho hy hx (h4 x h); rw [hxy] at this; cases this
theorem ordI : OrdOn ltI (fun _ => True) where
  irr := fun a _ => by simp [ltI]
  tr := fun a b c _ _ _ h k => by simp only [ltI, decide_eq_true_eq] at *; omega
  tri := fun a b _ _ h k => by simp only [ltI, decide_eq_false_iff_not] at *; omega
theorem has_ret (tb : Nat) (p : Option Addr) (n : Int) (t : RB Int) (fp : List Nat) (x : Int) (w0 : World) (hT : w0.heap[tb]? = some (treeO p n)) (h : TreeAt w0 t p fp) :
    Ret Try.prog 53 #[.pointer (some ⟨tb, 0, none⟩), .int .i64 x] w0 fun v w' => v = .bool (RB.has ltI x t) ∧ Only [] w0 w' := by
  have hs := (St.nil w0).track hT (by simp)
  refine ret_of_xc Try.func53 (by kernel_rfl) rfl Try.ntmps53 rfl rfl rfl ?_
  repeat' (first | refine vs (k := ?_) | refine ps (k := ?_) | (refine st hs (k := ?_); intro w hs) | (refine stA hs (k := ?_); intro w hs) | (refine al hs (k := ?_); intro b w hz hs) | (refine bx hs (k := ?_); intro b w hz hs) | (refine bs hs (k := ?_); intro b w hz hs) | refine XS.nil ?_ | refine then_of ?_ | refine xc_seq ?_ | (refine xc_region ?_ ?_; exact rfl) | refine xc_block ?_ | refine block_normal ?_ | refine xc_ret ?_ | refine then_ret ?_ | refine block_ret ?_ | refine xc_skip ?_ | refine xc_exit ?_ | refine then_exit ?_ | refine loopS_exit ?_ | refine loopS_ret ?_ | refine cutB_ret ?_ | refine cutN_ret ?_ | refine cutN_exit ?_ | refine block_exit ?_ | (refine block_other ?_ ?_; exact rfl) | (refine xc_true ?_ ?_; exact rfl) | (refine xc_false ?_ ?_; exact rfl) | ((with_reducible apply xs_guard); exact rfl; exact rfl; intro c hc; (fail_if_success (have : true = c := hc)); (fail_if_success (have : false = c := hc)); cases c) | (refine xc_if rfl (fun hc => ?_) (fun hc => ?_)) | (refine xc_cond rfl (fun hc => ?_) (fun hc => ?_)))
  have ho1 : Only [] w0 _ := hs.onlyF [] (by simp [hT]) (by simp [D0])
  refine xc_cutB (fun _ : Unit => []) (fun _ w => RB.has ltI x t = false ∧ Only [] w0 w) ?_ ?_
  · refine xc_loopS (fun (s : RB Int × Option Addr) => [(0, .pointer (some ⟨tb, 0, none⟩)), (1, .int .i64 x), (5, .pointer s.2)])
      (fun s w => RB.has ltI x s.1 = RB.has ltI x t ∧ Only [] w0 w ∧ ∃ fp, TreeAt w0 s.1 s.2 fp)
      (fun s => s.1.list.length) (t, p) (by (repeat (first | exact agree_nil | (apply agree_cons; exact rfl)))) ⟨rfl, ho1, fp, h⟩ fun s env w ⟨h1, h2, fp2, h3⟩ => ?_
    clear hs
    obtain ⟨s, ps⟩ := s
    dsimp only at h1 h3 ⊢
    have hTw := h2.block hT (by simp)
    cases s with
    | nil =>
      obtain ⟨rfl, rfl⟩ := h3
      have hs := St.nil w
      repeat' (first | refine vs (k := ?_) | refine ps (k := ?_) | (refine st hs (k := ?_); intro w hs) | (refine stA hs (k := ?_); intro w hs) | (refine al hs (k := ?_); intro b w hz hs) | (refine bx hs (k := ?_); intro b w hz hs) | (refine bs hs (k := ?_); intro b w hz hs) | refine XS.nil ?_ | refine then_of ?_ | refine xc_seq ?_ | (refine xc_region ?_ ?_; exact rfl) | refine xc_block ?_ | refine block_normal ?_ | refine xc_ret ?_ | refine then_ret ?_ | refine block_ret ?_ | refine xc_skip ?_ | refine xc_exit ?_ | refine then_exit ?_ | refine loopS_exit ?_ | refine loopS_ret ?_ | refine cutB_ret ?_ | refine cutN_ret ?_ | refine cutN_exit ?_ | refine block_exit ?_ | (refine block_other ?_ ?_; exact rfl) | (refine xc_true ?_ ?_; exact rfl) | (refine xc_false ?_ ?_; exact rfl) | ((with_reducible apply xs_guard); exact rfl; exact rfl; intro c hc; (fail_if_success (have : true = c := hc)); (fail_if_success (have : false = c := hc)); cases c) | (refine xc_if rfl (fun hc => ?_) (fun hc => ?_)) | (refine xc_cond rfl (fun hc => ?_) (fun hc => ?_)))
      exact cutB_exit () (by (repeat (first | exact agree_nil | (apply agree_cons; exact rfl)))) ⟨h1.symm, h2.step (hs.only0 rfl) (by simp)⟩
    | node l y r c =>
      obtain ⟨b, av, pl, pr, fl, fr, rfl, rfl, hb, hav, hl, hr⟩ := h3
      have hbw := h2.block hb (by simp)
      have hbt := head_ne hT hb
      have hs := ((St.nil w).track hTw (by simp)).track hbw (by simpa using hbt)
      repeat' (first | refine vs (k := ?_) | refine ps (k := ?_) | (refine st hs (k := ?_); intro w hs) | (refine stA hs (k := ?_); intro w hs) | (refine al hs (k := ?_); intro b w hz hs) | (refine bx hs (k := ?_); intro b w hz hs) | (refine bs hs (k := ?_); intro b w hz hs) | refine XS.nil ?_ | refine then_of ?_ | refine xc_seq ?_ | (refine xc_region ?_ ?_; exact rfl) | refine xc_block ?_ | refine block_normal ?_ | refine xc_ret ?_ | refine then_ret ?_ | refine block_ret ?_ | refine xc_skip ?_ | refine xc_exit ?_ | refine then_exit ?_ | refine loopS_exit ?_ | refine loopS_ret ?_ | refine cutB_ret ?_ | refine cutN_ret ?_ | refine cutN_exit ?_ | refine block_exit ?_ | (refine block_other ?_ ?_; exact rfl) | (refine xc_true ?_ ?_; exact rfl) | (refine xc_false ?_ ?_; exact rfl) | ((with_reducible apply xs_guard); exact rfl; exact rfl; intro c hc; (fail_if_success (have : true = c := hc)); (fail_if_success (have : false = c := hc)); cases c) | (refine xc_if rfl (fun hc => ?_) (fun hc => ?_)) | (refine xc_cond rfl (fun hc => ?_) (fun hc => ?_)))
      refine dr [] hs (k := ?_); intro hX w hs
      refine tk 0 hX (k := ?_)
      refine tk 1 hX (k := ?_)
      refine tk 2 hX (k := ?_)
      refine tk 3 hX (k := ?_)
      refine tk 4 hX (k := ?_)
      refine tk 5 hX (k := ?_)
      refine tk 6 hX (k := ?_)
      refine tk 7 hX (k := ?_)
      refine tk 8 hX (k := ?_)
      refine dt 9 hX (k := ?_)
      (with_reducible apply xs_call); exact rfl; exact rfl; exact less_ret x y _
      rintro v w' ⟨rfl, ho⟩; replace hs := hs.call0 ho
      repeat' (first | refine vs (k := ?_) | refine ps (k := ?_) | (refine st hs (k := ?_); intro w hs) | (refine stA hs (k := ?_); intro w hs) | (refine al hs (k := ?_); intro b w hz hs) | (refine bx hs (k := ?_); intro b w hz hs) | (refine bs hs (k := ?_); intro b w hz hs) | refine XS.nil ?_ | refine then_of ?_ | refine xc_seq ?_ | (refine xc_region ?_ ?_; exact rfl) | refine xc_block ?_ | refine block_normal ?_ | refine xc_ret ?_ | refine then_ret ?_ | refine block_ret ?_ | refine xc_skip ?_ | refine xc_exit ?_ | refine then_exit ?_ | refine loopS_exit ?_ | refine loopS_ret ?_ | refine cutB_ret ?_ | refine cutN_ret ?_ | refine cutN_exit ?_ | refine block_exit ?_ | (refine block_other ?_ ?_; exact rfl) | (refine xc_true ?_ ?_; exact rfl) | (refine xc_false ?_ ?_; exact rfl) | ((with_reducible apply xs_guard); exact rfl; exact rfl; intro c hc; (fail_if_success (have : true = c := hc)); (fail_if_success (have : false = c := hc)); cases c) | (refine xc_if rfl (fun hc => ?_) (fun hc => ?_)) | (refine xc_cond rfl (fun hc => ?_) (fun hc => ?_)))
      refine dn (k := ?_)
      refine tk 10 hX (k := ?_)
      refine en (k := ?_)
      generalize hq : decide (x < y) = q
      simp only [RB.has, ltI, hq] at h1
      cases q
      · repeat' (first | refine vs (k := ?_) | refine ps (k := ?_) | (refine st hs (k := ?_); intro w hs) | (refine stA hs (k := ?_); intro w hs) | (refine al hs (k := ?_); intro b w hz hs) | (refine bx hs (k := ?_); intro b w hz hs) | (refine bs hs (k := ?_); intro b w hz hs) | refine XS.nil ?_ | refine then_of ?_ | refine xc_seq ?_ | (refine xc_region ?_ ?_; exact rfl) | refine xc_block ?_ | refine block_normal ?_ | refine xc_ret ?_ | refine then_ret ?_ | refine block_ret ?_ | refine xc_skip ?_ | refine xc_exit ?_ | refine then_exit ?_ | refine loopS_exit ?_ | refine loopS_ret ?_ | refine cutB_ret ?_ | refine cutN_ret ?_ | refine cutN_exit ?_ | refine block_exit ?_ | (refine block_other ?_ ?_; exact rfl) | (refine xc_true ?_ ?_; exact rfl) | (refine xc_false ?_ ?_; exact rfl) | ((with_reducible apply xs_guard); exact rfl; exact rfl; intro c hc; (fail_if_success (have : true = c := hc)); (fail_if_success (have : false = c := hc)); cases c) | (refine xc_if rfl (fun hc => ?_) (fun hc => ?_)) | (refine xc_cond rfl (fun hc => ?_) (fun hc => ?_)))
        refine dr [] hs (k := ?_); intro hX w hs
        refine tk 0 hX (k := ?_)
        refine tk 1 hX (k := ?_)
        refine tk 2 hX (k := ?_)
        refine tk 3 hX (k := ?_)
        refine tk 4 hX (k := ?_)
        refine tk 5 hX (k := ?_)
        refine tk 6 hX (k := ?_)
        refine tk 7 hX (k := ?_)
        refine tk 8 hX (k := ?_)
        refine dt 9 hX (k := ?_)
        (with_reducible apply xs_call); exact rfl; exact rfl; exact less_ret y x _
        rintro v w' ⟨rfl, ho⟩; replace hs := hs.call0 ho
        repeat' (first | refine vs (k := ?_) | refine ps (k := ?_) | (refine st hs (k := ?_); intro w hs) | (refine stA hs (k := ?_); intro w hs) | (refine al hs (k := ?_); intro b w hz hs) | (refine bx hs (k := ?_); intro b w hz hs) | (refine bs hs (k := ?_); intro b w hz hs) | refine XS.nil ?_ | refine then_of ?_ | refine xc_seq ?_ | (refine xc_region ?_ ?_; exact rfl) | refine xc_block ?_ | refine block_normal ?_ | refine xc_ret ?_ | refine then_ret ?_ | refine block_ret ?_ | refine xc_skip ?_ | refine xc_exit ?_ | refine then_exit ?_ | refine loopS_exit ?_ | refine loopS_ret ?_ | refine cutB_ret ?_ | refine cutN_ret ?_ | refine cutN_exit ?_ | refine block_exit ?_ | (refine block_other ?_ ?_; exact rfl) | (refine xc_true ?_ ?_; exact rfl) | (refine xc_false ?_ ?_; exact rfl) | ((with_reducible apply xs_guard); exact rfl; exact rfl; intro c hc; (fail_if_success (have : true = c := hc)); (fail_if_success (have : false = c := hc)); cases c) | (refine xc_if rfl (fun hc => ?_) (fun hc => ?_)) | (refine xc_cond rfl (fun hc => ?_) (fun hc => ?_)))
        refine dn (k := ?_)
        refine tk 10 hX (k := ?_)
        refine en (k := ?_)
        generalize hq2 : decide (y < x) = q2
        simp only [hq2, cond_false] at h1
        cases q2
        · repeat' (first | refine vs (k := ?_) | refine ps (k := ?_) | (refine st hs (k := ?_); intro w hs) | (refine stA hs (k := ?_); intro w hs) | (refine al hs (k := ?_); intro b w hz hs) | (refine bx hs (k := ?_); intro b w hz hs) | (refine bs hs (k := ?_); intro b w hz hs) | refine XS.nil ?_ | refine then_of ?_ | refine xc_seq ?_ | (refine xc_region ?_ ?_; exact rfl) | refine xc_block ?_ | refine block_normal ?_ | refine xc_ret ?_ | refine then_ret ?_ | refine block_ret ?_ | refine xc_skip ?_ | refine xc_exit ?_ | refine then_exit ?_ | refine loopS_exit ?_ | refine loopS_ret ?_ | refine cutB_ret ?_ | refine cutN_ret ?_ | refine cutN_exit ?_ | refine block_exit ?_ | (refine block_other ?_ ?_; exact rfl) | (refine xc_true ?_ ?_; exact rfl) | (refine xc_false ?_ ?_; exact rfl) | ((with_reducible apply xs_guard); exact rfl; exact rfl; intro c hc; (fail_if_success (have : true = c := hc)); (fail_if_success (have : false = c := hc)); cases c) | (refine xc_if rfl (fun hc => ?_) (fun hc => ?_)) | (refine xc_cond rfl (fun hc => ?_) (fun hc => ?_)))
          first | refine rt (hq := ?_) | refine rt' (hq := ?_)
          exact ⟨by rw [← h1]; rfl, h2.step (hs.onlyF [] (by simp [hTw, hbw]) (by simp [D0])) (by simp)⟩
        · repeat' (first | refine vs (k := ?_) | refine ps (k := ?_) | (refine st hs (k := ?_); intro w hs) | (refine stA hs (k := ?_); intro w hs) | (refine al hs (k := ?_); intro b w hz hs) | (refine bx hs (k := ?_); intro b w hz hs) | (refine bs hs (k := ?_); intro b w hz hs) | refine XS.nil ?_ | refine then_of ?_ | refine xc_seq ?_ | (refine xc_region ?_ ?_; exact rfl) | refine xc_block ?_ | refine block_normal ?_ | refine xc_ret ?_ | refine then_ret ?_ | refine block_ret ?_ | refine xc_skip ?_ | refine xc_exit ?_ | refine then_exit ?_ | refine loopS_exit ?_ | refine loopS_ret ?_ | refine cutB_ret ?_ | refine cutN_ret ?_ | refine cutN_exit ?_ | refine block_exit ?_ | (refine block_other ?_ ?_; exact rfl) | (refine xc_true ?_ ?_; exact rfl) | (refine xc_false ?_ ?_; exact rfl) | ((with_reducible apply xs_guard); exact rfl; exact rfl; intro c hc; (fail_if_success (have : true = c := hc)); (fail_if_success (have : false = c := hc)); cases c) | (refine xc_if rfl (fun hc => ?_) (fun hc => ?_)) | (refine xc_cond rfl (fun hc => ?_) (fun hc => ?_)))
          exact loopS_next (r, pr) (by simp only [RB.list, List.length_append, List.length_cons]; omega) (by (repeat (first | exact agree_nil | (apply agree_cons; exact rfl)))) ⟨h1, h2.step (hs.onlyF [] (by simp [hTw, hbw]) (by simp [D0])) (by simp), _, hr⟩
      · repeat' (first | refine vs (k := ?_) | refine ps (k := ?_) | (refine st hs (k := ?_); intro w hs) | (refine stA hs (k := ?_); intro w hs) | (refine al hs (k := ?_); intro b w hz hs) | (refine bx hs (k := ?_); intro b w hz hs) | (refine bs hs (k := ?_); intro b w hz hs) | refine XS.nil ?_ | refine then_of ?_ | refine xc_seq ?_ | (refine xc_region ?_ ?_; exact rfl) | refine xc_block ?_ | refine block_normal ?_ | refine xc_ret ?_ | refine then_ret ?_ | refine block_ret ?_ | refine xc_skip ?_ | refine xc_exit ?_ | refine then_exit ?_ | refine loopS_exit ?_ | refine loopS_ret ?_ | refine cutB_ret ?_ | refine cutN_ret ?_ | refine cutN_exit ?_ | refine block_exit ?_ | (refine block_other ?_ ?_; exact rfl) | (refine xc_true ?_ ?_; exact rfl) | (refine xc_false ?_ ?_; exact rfl) | ((with_reducible apply xs_guard); exact rfl; exact rfl; intro c hc; (fail_if_success (have : true = c := hc)); (fail_if_success (have : false = c := hc)); cases c) | (refine xc_if rfl (fun hc => ?_) (fun hc => ?_)) | (refine xc_cond rfl (fun hc => ?_) (fun hc => ?_)))
        exact loopS_next (l, pl) (by simp only [RB.list, List.length_append, List.length_cons]; omega) (by (repeat (first | exact agree_nil | (apply agree_cons; exact rfl)))) ⟨h1, h2.step (hs.onlyF [] (by simp [hTw, hbw]) (by simp [D0])) (by simp), _, hl⟩
  · rintro _ env w ⟨h1, h2⟩
    clear hs
    have hs := St.nil w
    repeat' (first | refine vs (k := ?_) | refine ps (k := ?_) | (refine st hs (k := ?_); intro w hs) | (refine stA hs (k := ?_); intro w hs) | (refine al hs (k := ?_); intro b w hz hs) | (refine bx hs (k := ?_); intro b w hz hs) | (refine bs hs (k := ?_); intro b w hz hs) | refine XS.nil ?_ | refine then_of ?_ | refine xc_seq ?_ | (refine xc_region ?_ ?_; exact rfl) | refine xc_block ?_ | refine block_normal ?_ | refine xc_ret ?_ | refine then_ret ?_ | refine block_ret ?_ | refine xc_skip ?_ | refine xc_exit ?_ | refine then_exit ?_ | refine loopS_exit ?_ | refine loopS_ret ?_ | refine cutB_ret ?_ | refine cutN_ret ?_ | refine cutN_exit ?_ | refine block_exit ?_ | (refine block_other ?_ ?_; exact rfl) | (refine xc_true ?_ ?_; exact rfl) | (refine xc_false ?_ ?_; exact rfl) | ((with_reducible apply xs_guard); exact rfl; exact rfl; intro c hc; (fail_if_success (have : true = c := hc)); (fail_if_success (have : false = c := hc)); cases c) | (refine xc_if rfl (fun hc => ?_) (fun hc => ?_)) | (refine xc_cond rfl (fun hc => ?_) (fun hc => ?_)))
    first | refine rt (hq := ?_) | refine rt' (hq := ?_)
    exact ⟨by rw [h1]; rfl, h2.step (hs.only0 rfl) (by simp)⟩
theorem mend3_node (l : RB Int) (x : Int) (r : RB Int) (c : Bool) : ∃ l' x' r' c', RB.mend3 (.node l x r c) = .node l' x' r' c' := by
  unfold RB.mend3
  cases l with
  | nil => exact ⟨_, _, _, _, rfl⟩
  | node a y b d =>
    cases r with
    | nil => cases d <;> exact ⟨_, _, _, _, rfl⟩
    | node u z v e => cases d <;> cases e <;> exact ⟨_, _, _, _, rfl⟩
theorem mend_node (l : RB Int) (x : Int) (r : RB Int) (c : Bool) : ∃ l' x' r' c', RB.mend (.node l x r c) = .node l' x' r' c' := by
  unfold RB.mend
  obtain ⟨l1, x1, r1, c1, e1⟩ := mend1_node l x r c
  obtain ⟨l2, x2, r2, c2, e2⟩ := mend2_node l1 x1 r1 c1
  rw [e1, e2]
  exact mend3_node l2 x2 r2 c2
theorem ins_node (x : Int) (t : RB Int) : ∃ l' x' r' c', RB.ins ltI t x = .node l' x' r' c' := by
  cases t with
  | nil => exact ⟨_, _, _, _, rfl⟩
  | node l y r c =>
    simp only [RB.ins]
    cases ltI x y
    · exact mend_node _ _ _ _
    · exact mend_node _ _ _ _
theorem TreeAt.keep' {w w' : World} {F : List Nat} (ho : Only F w w') (hF : ∀ b ∈ F, ∀ cs fz, w.heap[b]? ≠ some (.cells cs 3 fz)) : ∀ {t : RB Int} {p : Option Addr} {fp : List Nat}, TreeAt w t p fp → (∀ b ∈ fp, b ∉ F) → TreeAt w' t p fp
  | .nil, p, fp, h, _ => h
  | .node l x r c, p, fp, ⟨b, av, pl, pr, fl, fr, h1, h2, h3, h4, h5, h6⟩, hd => by
    subst h2
    refine ⟨b, av, pl, pr, fl, fr, h1, rfl, ho.block h3 (hd b List.mem_cons_self), ?_, TreeAt.keep' ho hF h5 fun k hk => hd k (List.mem_cons_of_mem _ (List.mem_append_left _ hk)),
      TreeAt.keep' ho hF h6 fun k hk => hd k (List.mem_cons_of_mem _ (List.mem_append_right _ hk))⟩
    obtain ⟨ad, cap, rfl, hdd⟩ := h4
    refine ⟨ad, cap, rfl, fun hn => ?_⟩
    obtain ⟨bb, off, cs, fz, g1, g2, g3, g4⟩ := hdd hn
    exact ⟨bb, off, cs, fz, g1, g2, ho.block g3 (fun hm => hF bb hm _ _ g3), g4⟩
theorem tree_keep2 {w w' : World} {b tb : Nat} {t : RB Int} {p p0 : Option Addr} {n0 : Int} {fp : List Nat} {cs : Array Value} {fz : Nat × Nat} (h : TreeAt w t p fp) (ho : Only [b, tb] w w') (hb : w.heap[b]? = some (.cells cs 84 fz)) (hT : w.heap[tb]? = some (treeO p0 n0)) (h1 : b ∉ fp) (h2 : tb ∉ fp) : TreeAt w' t p fp := by
  refine h.keep' ho (fun k hk cs fz e => ?_) (fun k hk hm => ?_)
  · simp only [List.mem_cons, List.not_mem_nil, or_false] at hk
    rcases hk with rfl | rfl
    · rw [hb] at e; cases e
    · rw [hT] at e; cases e
  · simp only [List.mem_cons, List.not_mem_nil, or_false] at hm
    rcases hm with rfl | rfl
    · exact h1 hk
    · exact h2 hk
/-- A tree with its head. -/
def Obj6 (w : World) (tb : Nat) (t : RB Int) (F : List Nat) : Prop := ∃ p fp, F = tb :: fp ∧ w.heap[tb]? = some (treeO p t.list.length) ∧ TreeAt w t p fp ∧ fp.Nodup
def RB.insert (t : RB Int) (x : Int) : RB Int := bif RB.has ltI x t then t else RB.blacken (RB.ins ltI t x)
set_option maxHeartbeats 1000000 in
theorem rbInsert_ret (tb : Nat) (t : RB Int) (F : List Nat) (x : Int) (w0 : World) (h : Obj6 w0 tb t F) (hlen : t.list.length + 1 ≤ 1000000) :
    Ret Try.prog 15 #[.pointer (some ⟨tb, 0, none⟩), .int .i64 x] w0 fun v w' => v = .bool (!RB.has ltI x t) ∧ ∃ F', Obj6 w' tb (RB.insert t x) F' ∧ (∀ k ∈ F', k ∈ F ∨ w0.heap.size ≤ k) ∧ Only F w0 w' := by
  obtain ⟨p, fp, rfl, hT, ht, hnd⟩ := h
  have hs := (St.nil w0).track hT (by simp)
  refine ret_of_xc Try.func15 (by kernel_rfl) rfl Try.ntmps15 rfl rfl rfl ?_
  repeat' (first | refine vs (k := ?_) | refine ps (k := ?_) | (refine st hs (k := ?_); intro w hs) | (refine stA hs (k := ?_); intro w hs) | (refine al hs (k := ?_); intro b w hz hs) | (refine bx hs (k := ?_); intro b w hz hs) | (refine bs hs (k := ?_); intro b w hz hs) | refine XS.nil ?_ | refine then_of ?_ | refine xc_seq ?_ | (refine xc_region ?_ ?_; exact rfl) | refine xc_block ?_ | refine block_normal ?_ | refine xc_ret ?_ | refine then_ret ?_ | refine block_ret ?_ | refine xc_skip ?_ | refine xc_exit ?_ | refine then_exit ?_ | refine loopS_exit ?_ | refine loopS_ret ?_ | refine cutB_ret ?_ | refine cutN_ret ?_ | refine cutN_exit ?_ | refine block_exit ?_ | (refine block_other ?_ ?_; exact rfl) | (refine xc_true ?_ ?_; exact rfl) | (refine xc_false ?_ ?_; exact rfl) | ((with_reducible apply xs_guard); exact rfl; exact rfl; intro c hc; (fail_if_success (have : true = c := hc)); (fail_if_success (have : false = c := hc)); cases c) | (refine xc_if rfl (fun hc => ?_) (fun hc => ?_)) | (refine xc_cond rfl (fun hc => ?_) (fun hc => ?_)))
  have ho1 : Only [] w0 _ := hs.onlyF [] (by simp [hT]) (by simp [D0])
  (with_reducible apply xs_call); exact rfl; exact rfl; exact has_ret tb p _ t fp x _ (hs.get At.head) (ht.keep ho1 (Nodes.nil _) (by simp))
  rintro v w' ⟨rfl, ho⟩; replace hs := hs.call0 ho
  unfold RB.insert
  generalize hq : RB.has ltI x t = q
  cases q
  · repeat' (first | refine vs (k := ?_) | refine ps (k := ?_) | (refine st hs (k := ?_); intro w hs) | (refine stA hs (k := ?_); intro w hs) | (refine al hs (k := ?_); intro b w hz hs) | (refine bx hs (k := ?_); intro b w hz hs) | (refine bs hs (k := ?_); intro b w hz hs) | refine XS.nil ?_ | refine then_of ?_ | refine xc_seq ?_ | (refine xc_region ?_ ?_; exact rfl) | refine xc_block ?_ | refine block_normal ?_ | refine xc_ret ?_ | refine then_ret ?_ | refine block_ret ?_ | refine xc_skip ?_ | refine xc_exit ?_ | refine then_exit ?_ | refine loopS_exit ?_ | refine loopS_ret ?_ | refine cutB_ret ?_ | refine cutN_ret ?_ | refine cutN_exit ?_ | refine block_exit ?_ | (refine block_other ?_ ?_; exact rfl) | (refine xc_true ?_ ?_; exact rfl) | (refine xc_false ?_ ?_; exact rfl) | ((with_reducible apply xs_guard); exact rfl; exact rfl; intro c hc; (fail_if_success (have : true = c := hc)); (fail_if_success (have : false = c := hc)); cases c) | (refine xc_if rfl (fun hc => ?_) (fun hc => ?_)) | (refine xc_cond rfl (fun hc => ?_) (fun hc => ?_)))
    have ho1 : Only [] w0 _ := hs.onlyF [] (by simp [hT]) (by simp [D0])
    have hTw := hs.get At.head
    (with_reducible apply xs_call); exact rfl; exact rfl; exact insert_ret tb p _ x t p fp _ hTw (ht.keep ho1 (Nodes.nil _) (by simp)) hnd hlen
    rintro v w1 ⟨p', fp', rfl, k1, k2, k3, k4⟩
    have hT1 := head_keep hTw k4 (ht.keep ho1 (Nodes.nil _) (by simp)).nodes
    obtain ⟨l', y, r', c, e⟩ := ins_node x t
    have hl' := len_ins x t
    rw [e] at k1 hl' ⊢
    obtain ⟨b, av, pl, pr, fl, fr, rfl, rfl, hb, hav, hl, hr⟩ := k1
    have hbt := head_ne hT1 hb
    clear hs
    have hs := ((St.nil w1).track hT1 (by simp)).track hb (by simpa using hbt)
    repeat' (first | refine vs (k := ?_) | refine ps (k := ?_) | (refine st hs (k := ?_); intro w hs) | (refine stA hs (k := ?_); intro w hs) | (refine al hs (k := ?_); intro b w hz hs) | (refine bx hs (k := ?_); intro b w hz hs) | (refine bs hs (k := ?_); intro b w hz hs) | refine XS.nil ?_ | refine then_of ?_ | refine xc_seq ?_ | (refine xc_region ?_ ?_; exact rfl) | refine xc_block ?_ | refine block_normal ?_ | refine xc_ret ?_ | refine then_ret ?_ | refine block_ret ?_ | refine xc_skip ?_ | refine xc_exit ?_ | refine then_exit ?_ | refine loopS_exit ?_ | refine loopS_ret ?_ | refine cutB_ret ?_ | refine cutN_ret ?_ | refine cutN_exit ?_ | refine block_exit ?_ | (refine block_other ?_ ?_; exact rfl) | (refine xc_true ?_ ?_; exact rfl) | (refine xc_false ?_ ?_; exact rfl) | ((with_reducible apply xs_guard); exact rfl; exact rfl; intro c hc; (fail_if_success (have : true = c := hc)); (fail_if_success (have : false = c := hc)); cases c) | (refine xc_if rfl (fun hc => ?_) (fun hc => ?_)) | (refine xc_cond rfl (fun hc => ?_) (fun hc => ?_)))
    have en : IntKind.i64.wrap ((t.list.length : Nat) + 1) = ((l'.list ++ y :: r'.list).length : Nat) := by
      have h1 : (l'.list ++ y :: r'.list).length = t.list.length + 1 := hl'
      rw [h1]
      exact i64_small (by omega) (by omega)
    rw [en] at hs
    first | refine rt (hq := ?_) | refine rt' (hq := ?_)
    have ho3 : Only [b, tb] w1 _ := hs.onlyF [b, tb] (by simp) (by simp [D0])
    have hsz := ho1.size
    have hbn : b ∉ fl ∧ b ∉ fr := by
      simp only [List.nodup_cons, List.mem_append, not_or] at k2
      exact k2.1
    have htn : tb ∉ fl ∧ tb ∉ fr := ⟨(fun h => by obtain ⟨_, _, h⟩ := hl.nodes tb h; rw [hT1] at h; cases h), (fun h => by obtain ⟨_, _, h⟩ := hr.nodes tb h; rw [hT1] at h; cases h)⟩
    have h2 := hs.get At.head
    have h3 := hs.get (At.tail At.head)
    have o1 : Only (tb :: fp) w0 w1 := (ho1.weaken (by simp)).step k4 (fun k hk => .inl (List.mem_cons_of_mem _ hk))
    refine ⟨rfl, tb :: (b :: (fl ++ fr)), ⟨_, _, rfl, h3, ⟨b, av, pl, pr, fl, fr, rfl, rfl, h2, ?_, ?_, ?_⟩, k2⟩, ?_, ?_⟩
    · obtain ⟨ad, cap, rfl, hd⟩ := hav
      refine ⟨ad, cap, rfl, fun hn => ?_⟩
      obtain ⟨bb, off, cs, fz, g1, g2, g3, g4⟩ := hd hn
      refine ⟨bb, off, cs, fz, g1, g2, ho3.block g3 (fun hm => ?_), g4⟩
      simp only [List.mem_cons, List.not_mem_nil, or_false] at hm
      rcases hm with rfl | rfl
      · rw [hb] at g3; cases g3
      · rw [hT1] at g3; cases g3
    · exact tree_keep2 hl ho3 hb hT1 hbn.1 htn.1
    · exact tree_keep2 hr ho3 hb hT1 hbn.2 htn.2
    · intro k hk
      rcases List.mem_cons.1 hk with rfl | hk
      · exact .inl List.mem_cons_self
      · rcases k3 k hk with h | h
        · exact .inl (List.mem_cons_of_mem _ h)
        · exact .inr (by omega)
    · refine o1.step ho3 (fun k hk => ?_)
      simp only [List.mem_cons, List.not_mem_nil, or_false] at hk
      rcases hk with rfl | rfl
      · rcases k3 k List.mem_cons_self with h | h
        · exact .inl (List.mem_cons_of_mem _ h)
        · exact .inr (by omega)
      · exact .inl List.mem_cons_self
  · repeat' (first | refine vs (k := ?_) | refine ps (k := ?_) | (refine st hs (k := ?_); intro w hs) | (refine stA hs (k := ?_); intro w hs) | (refine al hs (k := ?_); intro b w hz hs) | (refine bx hs (k := ?_); intro b w hz hs) | (refine bs hs (k := ?_); intro b w hz hs) | refine XS.nil ?_ | refine then_of ?_ | refine xc_seq ?_ | (refine xc_region ?_ ?_; exact rfl) | refine xc_block ?_ | refine block_normal ?_ | refine xc_ret ?_ | refine then_ret ?_ | refine block_ret ?_ | refine xc_skip ?_ | refine xc_exit ?_ | refine then_exit ?_ | refine loopS_exit ?_ | refine loopS_ret ?_ | refine cutB_ret ?_ | refine cutN_ret ?_ | refine cutN_exit ?_ | refine block_exit ?_ | (refine block_other ?_ ?_; exact rfl) | (refine xc_true ?_ ?_; exact rfl) | (refine xc_false ?_ ?_; exact rfl) | ((with_reducible apply xs_guard); exact rfl; exact rfl; intro c hc; (fail_if_success (have : true = c := hc)); (fail_if_success (have : false = c := hc)); cases c) | (refine xc_if rfl (fun hc => ?_) (fun hc => ?_)) | (refine xc_cond rfl (fun hc => ?_) (fun hc => ?_)))
    first | refine rt (hq := ?_) | refine rt' (hq := ?_)
    have ho1 : Only [] w0 _ := hs.onlyF [] (by simp [hT]) (by simp [D0])
    exact ⟨rfl, _, ⟨p, fp, rfl, hs.get At.head, ht.keep ho1 (Nodes.nil _) (by simp), hnd⟩, fun k hk => .inl hk, ho1.weaken (by simp)⟩
end Go.Proofs.YtjooegonmdmajaaX
