/- rbtree: turns. -/
import Derived.Test.YtjooegonmdmajaaRb2
set_option linter.unusedVariables false
set_option linter.unusedSimpArgs false
set_option maxRecDepth 100000
namespace Go.Proofs.YtjooegonmdmajaaX
open Go Go.RowKit
attribute [local irreducible] XS XC XA thenE blockE retE loopE loopS cutB cutN doneE SE
theorem perm_turn (b u : Nat) (A B C : List Nat) : (u :: ((b :: (A ++ B)) ++ C)).Perm (b :: (A ++ (u :: (B ++ C)))) := by
  have h1 : (u :: b :: (A ++ (B ++ C))).Perm (b :: u :: (A ++ (B ++ C))) := List.Perm.swap _ _ _
  have h2 : (b :: u :: (A ++ (B ++ C))).Perm (b :: (A ++ (u :: (B ++ C)))) := List.Perm.cons _ List.perm_middle.symm
  have := h1.trans h2
  simpa using this
theorem Only.step {w0 w1 w2 : World} {F G : List Nat} (h : Only F w0 w1) (k : Only G w1 w2) (hG : ∀ k ∈ G, k ∈ F ∨ w0.heap.size ≤ k) : Only F w0 w2 :=
  (h.trans k).mono fun k hk hm => by
    rcases List.mem_append.1 hm with hm | hm
    · exact hm
    · rcases hG k hm with h | h
      · exact h
      · omega
theorem Nodes.lt {w : World} {F : List Nat} (h : Nodes w F) : ∀ k ∈ F, k < w.heap.size := fun k hk => by
  obtain ⟨cs, fz, h⟩ := h k hk
  exact lt_of_block h
/-- A tree that came back in the place of one that was there. -/
def Turned (w0 : World) (fp : List Nat) (t' : RB Int) (v : Value) (w' : World) : Prop :=
  ∃ p' fp', v = .pointer p' ∧ TreeAt w' t' p' fp' ∧ fp'.Nodup ∧ (∀ k ∈ fp', k ∈ fp ∨ w0.heap.size ≤ k) ∧ Only fp w0 w'
theorem toLeft_ret (tb : Nat) (p0 : Option Addr) (n0 : Int) (l : RB Int) (x : Int) (rl : RB Int) (y : Int) (rr : RB Int) (c c2 : Bool) (p : Option Addr) (fp : List Nat) (w0 : World) (hT : w0.heap[tb]? = some (treeO p0 n0)) (h : StaleAt w0 l x (.node rl y rr c2) c p fp) (hnd : fp.Nodup) (hlen : (l.list ++ x :: (rl.list ++ y :: rr.list)).length ≤ 1000000) :
    Ret Try.prog 115 #[.pointer (some ⟨tb, 0, none⟩), .pointer p] w0 fun v w' => Turned w0 fp (.node (.node l x rl true) y rr c) v w' := by
  obtain ⟨b, av, pl, pr, fl, fr, rfl, rfl, hb, hl, u, avu, prl, prr, frl, frr, rfl, rfl, hu, _, hrl, hrr⟩ := h
  have hp := perm_turn b u fl frl frr
  have hnd' := hp.nodup_iff.2 hnd
  have hNb : Nodes w0 [u, b] := Nodes.cons hu (Nodes.cons hb (Nodes.nil w0))
  simp only [List.length_append, List.length_cons] at hlen
  obtain ⟨d1, d2, d3, d4, d5, d6, d7, d8⟩ : u ≠ b ∧ (∀ k ∈ fl, k ∉ [u, b]) ∧ (∀ k ∈ frl, k ∉ [u, b]) ∧ (∀ k ∈ frr, k ∉ [u, b]) ∧ (b :: (fl ++ frl)).Nodup ∧ u ∉ b :: (fl ++ frl) ∧ (∀ k ∈ frr, k ∉ b :: (fl ++ frl)) ∧ (u :: ((b :: (fl ++ frl)) ++ frr)).Nodup := by
    simp only [List.cons_append, List.append_assoc, List.nodup_cons, List.nodup_append, List.mem_append, List.mem_cons, List.not_mem_nil, or_false] at hnd' ⊢
    grind
  have hs := St.nil w0
  replace hs := hs.track hb (by simp)
  replace hs := hs.track hu (by simpa using d1)
  refine ret_of_xc Try.func115 (by kernel_rfl) rfl Try.ntmps115 rfl rfl rfl ?_
  repeat' (first | refine vs (k := ?_) | refine ps (k := ?_) | (refine st hs (k := ?_); intro w hs) | (refine stA hs (k := ?_); intro w hs) | (refine al hs (k := ?_); intro b w hz hs) | (refine bx hs (k := ?_); intro b w hz hs) | (refine bs hs (k := ?_); intro b w hz hs) | refine XS.nil ?_ | refine then_of ?_ | refine xc_seq ?_ | (refine xc_region ?_ ?_; exact rfl) | refine xc_block ?_ | refine block_normal ?_ | refine xc_ret ?_ | refine then_ret ?_ | refine block_ret ?_ | refine xc_skip ?_ | refine xc_exit ?_ | refine then_exit ?_ | refine loopS_exit ?_ | refine loopS_ret ?_ | refine cutB_ret ?_ | refine cutN_ret ?_ | refine cutN_exit ?_ | refine block_exit ?_ | (refine block_other ?_ ?_; exact rfl) | (refine xc_true ?_ ?_; exact rfl) | (refine xc_false ?_ ?_; exact rfl) | ((with_reducible apply xs_guard); exact rfl; exact rfl; intro c hc; (fail_if_success (have : true = c := hc)); (fail_if_success (have : false = c := hc)); cases c) | (refine xc_if rfl (fun hc => ?_) (fun hc => ?_)) | (refine xc_cond rfl (fun hc => ?_) (fun hc => ?_)))
  have ho1 : Only [u, b] w0 _ := hs.onlyF [u, b] (by simp) (by simp [D0])
  have hbw := hs.get (At.tail At.head)
  have huw := hs.get At.head
  have hlw := hl.keep ho1 hNb d2
  have hrlw := hrl.keep ho1 hNb d3
  have hrrw := hrr.keep ho1 hNb d4
  have hTw := head_keep hT ho1 hNb
  clear hs
  (with_reducible apply xs_call); exact rfl; exact rfl; exact rbSum_ret tb p0 n0 l x rl true _ _ _ hTw ⟨b, av, pl, prl, fl, frl, rfl, rfl, hbw, hlw, hrlw⟩ d5 (by simp only [List.length_append, List.length_cons]; omega)
  rintro v w' ⟨hT1, ho2⟩
  have hN2 : Nodes _ (b :: (fl ++ frl)) := StaleAt.nodes ⟨b, av, pl, prl, fl, frl, rfl, rfl, hbw, hlw, hrlw⟩
  have hu2 := ho2.block huw d6
  have hrr2 := hrrw.keep ho2 hN2 d7
  have hT2 := head_keep hTw ho2 hN2
  have hs := St.nil w'
  repeat' (first | refine vs (k := ?_) | refine ps (k := ?_) | (refine st hs (k := ?_); intro w hs) | (refine stA hs (k := ?_); intro w hs) | (refine al hs (k := ?_); intro b w hz hs) | (refine bx hs (k := ?_); intro b w hz hs) | (refine bs hs (k := ?_); intro b w hz hs) | refine XS.nil ?_ | refine then_of ?_ | refine xc_seq ?_ | (refine xc_region ?_ ?_; exact rfl) | refine xc_block ?_ | refine block_normal ?_ | refine xc_ret ?_ | refine then_ret ?_ | refine block_ret ?_ | refine xc_skip ?_ | refine xc_exit ?_ | refine then_exit ?_ | refine loopS_exit ?_ | refine loopS_ret ?_ | refine cutB_ret ?_ | refine cutN_ret ?_ | refine cutN_exit ?_ | refine block_exit ?_ | (refine block_other ?_ ?_; exact rfl) | (refine xc_true ?_ ?_; exact rfl) | (refine xc_false ?_ ?_; exact rfl) | ((with_reducible apply xs_guard); exact rfl; exact rfl; intro c hc; (fail_if_success (have : true = c := hc)); (fail_if_success (have : false = c := hc)); cases c) | (refine xc_if rfl (fun hc => ?_) (fun hc => ?_)) | (refine xc_cond rfl (fun hc => ?_) (fun hc => ?_)))
  (with_reducible apply xs_call); exact rfl; exact rfl; exact rbSum_ret tb p0 n0 (.node l x rl true) y rr c _ _ _ hT2 ⟨u, avu, _, prr, _, frr, rfl, rfl, hu2, hT1, hrr2⟩ d8 (by simp only [RB.list, List.length_append, List.length_cons]; omega)
  rintro v w'' ⟨hT3, ho3⟩
  have hs := St.nil w''
  repeat' (first | refine vs (k := ?_) | refine ps (k := ?_) | (refine st hs (k := ?_); intro w hs) | (refine stA hs (k := ?_); intro w hs) | (refine al hs (k := ?_); intro b w hz hs) | (refine bx hs (k := ?_); intro b w hz hs) | (refine bs hs (k := ?_); intro b w hz hs) | refine XS.nil ?_ | refine then_of ?_ | refine xc_seq ?_ | (refine xc_region ?_ ?_; exact rfl) | refine xc_block ?_ | refine block_normal ?_ | refine xc_ret ?_ | refine then_ret ?_ | refine block_ret ?_ | refine xc_skip ?_ | refine xc_exit ?_ | refine then_exit ?_ | refine loopS_exit ?_ | refine loopS_ret ?_ | refine cutB_ret ?_ | refine cutN_ret ?_ | refine cutN_exit ?_ | refine block_exit ?_ | (refine block_other ?_ ?_; exact rfl) | (refine xc_true ?_ ?_; exact rfl) | (refine xc_false ?_ ?_; exact rfl) | ((with_reducible apply xs_guard); exact rfl; exact rfl; intro c hc; (fail_if_success (have : true = c := hc)); (fail_if_success (have : false = c := hc)); cases c) | (refine xc_if rfl (fun hc => ?_) (fun hc => ?_)) | (refine xc_cond rfl (fun hc => ?_) (fun hc => ?_)))
  first | refine rt (hq := ?_) | refine rt' (hq := ?_)
  have e : ∀ k, k ∈ u :: ((b :: (fl ++ frl)) ++ frr) → k ∈ b :: (fl ++ (u :: (frl ++ frr))) := fun k hk => hp.mem_iff.1 hk
  have o1 : Only (b :: (fl ++ (u :: (frl ++ frr)))) w0 _ := ho1.weaken (by simp)
  have o2 := o1.step ho2 (fun k hk => .inl (e k (List.mem_cons_of_mem _ (List.mem_append_left _ hk))))
  exact ⟨_, _, rfl, hT3, d8, fun k hk => .inl (e k hk), o2.step ho3 (fun k hk => .inl (e k hk))⟩
theorem toRight_ret (tb : Nat) (p0 : Option Addr) (n0 : Int) (ll : RB Int) (y : Int) (lr : RB Int) (x : Int) (r : RB Int) (c c2 : Bool) (p : Option Addr) (fp : List Nat) (w0 : World) (hT : w0.heap[tb]? = some (treeO p0 n0)) (h : StaleAt w0 (.node ll y lr c2) x r c p fp) (hnd : fp.Nodup) (hlen : (ll.list ++ y :: (lr.list ++ x :: r.list)).length ≤ 1000000) :
    Ret Try.prog 98 #[.pointer (some ⟨tb, 0, none⟩), .pointer p] w0 fun v w' => Turned w0 fp (.node ll y (.node lr x r true) c) v w' := by
  obtain ⟨b, av, pl, pr, fl, fr, rfl, rfl, hb, ⟨u, avu, pll, plr, fll, flr, rfl, rfl, hu, _, hll, hlr⟩, hr⟩ := h
  have hp := (perm_turn u b fll flr fr).symm
  have hnd' := hp.nodup_iff.2 hnd
  have hNb : Nodes w0 [u, b] := Nodes.cons hu (Nodes.cons hb (Nodes.nil w0))
  simp only [List.length_append, List.length_cons] at hlen
  obtain ⟨d1, d2, d3, d4, d5, d6, d7, d8⟩ : u ≠ b ∧ (∀ k ∈ fr, k ∉ [u, b]) ∧ (∀ k ∈ flr, k ∉ [u, b]) ∧ (∀ k ∈ fll, k ∉ [u, b]) ∧ (b :: (flr ++ fr)).Nodup ∧ u ∉ b :: (flr ++ fr) ∧ (∀ k ∈ fll, k ∉ b :: (flr ++ fr)) ∧ (u :: (fll ++ (b :: (flr ++ fr)))).Nodup := by
    simp only [List.cons_append, List.append_assoc, List.nodup_cons, List.nodup_append, List.mem_append, List.mem_cons, List.not_mem_nil, or_false] at hnd' ⊢
    grind
  have hs := St.nil w0
  replace hs := hs.track hb (by simp)
  replace hs := hs.track hu (by simpa using d1)
  refine ret_of_xc Try.func98 (by kernel_rfl) rfl Try.ntmps98 rfl rfl rfl ?_
  repeat' (first | refine vs (k := ?_) | refine ps (k := ?_) | (refine st hs (k := ?_); intro w hs) | (refine stA hs (k := ?_); intro w hs) | (refine al hs (k := ?_); intro b w hz hs) | (refine bx hs (k := ?_); intro b w hz hs) | (refine bs hs (k := ?_); intro b w hz hs) | refine XS.nil ?_ | refine then_of ?_ | refine xc_seq ?_ | (refine xc_region ?_ ?_; exact rfl) | refine xc_block ?_ | refine block_normal ?_ | refine xc_ret ?_ | refine then_ret ?_ | refine block_ret ?_ | refine xc_skip ?_ | refine xc_exit ?_ | refine then_exit ?_ | refine loopS_exit ?_ | refine loopS_ret ?_ | refine cutB_ret ?_ | refine cutN_ret ?_ | refine cutN_exit ?_ | refine block_exit ?_ | (refine block_other ?_ ?_; exact rfl) | (refine xc_true ?_ ?_; exact rfl) | (refine xc_false ?_ ?_; exact rfl) | ((with_reducible apply xs_guard); exact rfl; exact rfl; intro c hc; (fail_if_success (have : true = c := hc)); (fail_if_success (have : false = c := hc)); cases c) | (refine xc_if rfl (fun hc => ?_) (fun hc => ?_)) | (refine xc_cond rfl (fun hc => ?_) (fun hc => ?_)))
  have ho1 : Only [u, b] w0 _ := hs.onlyF [u, b] (by simp) (by simp [D0])
  have hbw := hs.get (At.tail At.head)
  have huw := hs.get At.head
  have hrw := hr.keep ho1 hNb d2
  have hlrw := hlr.keep ho1 hNb d3
  have hllw := hll.keep ho1 hNb d4
  have hTw := head_keep hT ho1 hNb
  clear hs
  (with_reducible apply xs_call); exact rfl; exact rfl; exact rbSum_ret tb p0 n0 lr x r true _ _ _ hTw ⟨b, av, plr, pr, flr, fr, rfl, rfl, hbw, hlrw, hrw⟩ d5 (by simp only [List.length_append, List.length_cons]; omega)
  rintro v w' ⟨hT1, ho2⟩
  have hN2 : Nodes _ (b :: (flr ++ fr)) := StaleAt.nodes ⟨b, av, plr, pr, flr, fr, rfl, rfl, hbw, hlrw, hrw⟩
  have hu2 := ho2.block huw d6
  have hll2 := hllw.keep ho2 hN2 d7
  have hT2 := head_keep hTw ho2 hN2
  have hs := St.nil w'
  repeat' (first | refine vs (k := ?_) | refine ps (k := ?_) | (refine st hs (k := ?_); intro w hs) | (refine stA hs (k := ?_); intro w hs) | (refine al hs (k := ?_); intro b w hz hs) | (refine bx hs (k := ?_); intro b w hz hs) | (refine bs hs (k := ?_); intro b w hz hs) | refine XS.nil ?_ | refine then_of ?_ | refine xc_seq ?_ | (refine xc_region ?_ ?_; exact rfl) | refine xc_block ?_ | refine block_normal ?_ | refine xc_ret ?_ | refine then_ret ?_ | refine block_ret ?_ | refine xc_skip ?_ | refine xc_exit ?_ | refine then_exit ?_ | refine loopS_exit ?_ | refine loopS_ret ?_ | refine cutB_ret ?_ | refine cutN_ret ?_ | refine cutN_exit ?_ | refine block_exit ?_ | (refine block_other ?_ ?_; exact rfl) | (refine xc_true ?_ ?_; exact rfl) | (refine xc_false ?_ ?_; exact rfl) | ((with_reducible apply xs_guard); exact rfl; exact rfl; intro c hc; (fail_if_success (have : true = c := hc)); (fail_if_success (have : false = c := hc)); cases c) | (refine xc_if rfl (fun hc => ?_) (fun hc => ?_)) | (refine xc_cond rfl (fun hc => ?_) (fun hc => ?_)))
  (with_reducible apply xs_call); exact rfl; exact rfl; exact rbSum_ret tb p0 n0 ll y (.node lr x r true) c _ _ _ hT2 ⟨u, avu, pll, _, fll, _, rfl, rfl, hu2, hll2, hT1⟩ d8 (by simp only [RB.list, List.length_append, List.length_cons]; omega)
  rintro v w'' ⟨hT3, ho3⟩
  have hs := St.nil w''
  repeat' (first | refine vs (k := ?_) | refine ps (k := ?_) | (refine st hs (k := ?_); intro w hs) | (refine stA hs (k := ?_); intro w hs) | (refine al hs (k := ?_); intro b w hz hs) | (refine bx hs (k := ?_); intro b w hz hs) | (refine bs hs (k := ?_); intro b w hz hs) | refine XS.nil ?_ | refine then_of ?_ | refine xc_seq ?_ | (refine xc_region ?_ ?_; exact rfl) | refine xc_block ?_ | refine block_normal ?_ | refine xc_ret ?_ | refine then_ret ?_ | refine block_ret ?_ | refine xc_skip ?_ | refine xc_exit ?_ | refine then_exit ?_ | refine loopS_exit ?_ | refine loopS_ret ?_ | refine cutB_ret ?_ | refine cutN_ret ?_ | refine cutN_exit ?_ | refine block_exit ?_ | (refine block_other ?_ ?_; exact rfl) | (refine xc_true ?_ ?_; exact rfl) | (refine xc_false ?_ ?_; exact rfl) | ((with_reducible apply xs_guard); exact rfl; exact rfl; intro c hc; (fail_if_success (have : true = c := hc)); (fail_if_success (have : false = c := hc)); cases c) | (refine xc_if rfl (fun hc => ?_) (fun hc => ?_)) | (refine xc_cond rfl (fun hc => ?_) (fun hc => ?_)))
  first | refine rt (hq := ?_) | refine rt' (hq := ?_)
  have e : ∀ k, k ∈ u :: (fll ++ (b :: (flr ++ fr))) → k ∈ b :: ((u :: (fll ++ flr)) ++ fr) := fun k hk => hp.mem_iff.1 hk
  have o1 : Only (b :: ((u :: (fll ++ flr)) ++ fr)) w0 _ := ho1.weaken (by simp)
  have o2 := o1.step ho2 (fun k hk => .inl (e k (List.mem_cons_of_mem _ (List.mem_append_right _ hk))))
  exact ⟨_, _, rfl, hT3, d8, fun k hk => .inl (e k hk), o2.step ho3 (fun k hk => .inl (e k hk))⟩
theorem rbFlip_ret (a : RB Int) (x : Int) (b : RB Int) (c1 : Bool) (y : Int) (d : RB Int) (z : Int) (e : RB Int) (c2 c : Bool) (p : Option Addr) (fp : List Nat) (w0 : World) (h : TreeAt w0 (.node (.node a x b c1) y (.node d z e c2) c) p fp) (hnd : fp.Nodup) :
    Ret Try.prog 116 #[.pointer p] w0 fun v w' => TreeAt w' (.node (.node a x b !c1) y (.node d z e !c2) !c) p fp ∧ Only fp w0 w' := by
  obtain ⟨m, av, _, _, _, _, rfl, rfl, hm, hav, ⟨u, avu, pa, pb, fa, fb, rfl, rfl, hu, hau, ha, hb⟩, ⟨v, avv, pd, pe, fd, fe, rfl, rfl, hv, hav2, hd, he⟩⟩ := h
  have hNb : Nodes w0 [v, u, m] := Nodes.cons hv (Nodes.cons hu (Nodes.cons hm (Nodes.nil w0)))
  obtain ⟨d1, d2, d3, d4, d5, d6, d7⟩ : u ≠ m ∧ v ≠ m ∧ v ≠ u ∧ (∀ k ∈ fa, k ∉ [v, u, m]) ∧ (∀ k ∈ fb, k ∉ [v, u, m]) ∧ (∀ k ∈ fd, k ∉ [v, u, m]) ∧ (∀ k ∈ fe, k ∉ [v, u, m]) := by
    simp only [List.cons_append, List.append_assoc, List.nodup_cons, List.nodup_append, List.mem_append, List.mem_cons, List.not_mem_nil, or_false] at hnd ⊢
    grind
  have hs := St.nil w0
  replace hs := hs.track hm (by simp)
  replace hs := hs.track hu (by simpa using d1)
  replace hs := hs.track hv (by simp [d2, d3])
  refine ret_of_xc Try.func116 (by kernel_rfl) rfl Try.ntmps116 rfl rfl rfl ?_
  repeat' (first | refine vs (k := ?_) | refine ps (k := ?_) | (refine st hs (k := ?_); intro w hs) | (refine stA hs (k := ?_); intro w hs) | (refine al hs (k := ?_); intro b w hz hs) | (refine bx hs (k := ?_); intro b w hz hs) | (refine bs hs (k := ?_); intro b w hz hs) | refine XS.nil ?_ | refine then_of ?_ | refine xc_seq ?_ | (refine xc_region ?_ ?_; exact rfl) | refine xc_block ?_ | refine block_normal ?_ | refine xc_ret ?_ | refine then_ret ?_ | refine block_ret ?_ | refine xc_skip ?_ | refine xc_exit ?_ | refine then_exit ?_ | refine loopS_exit ?_ | refine loopS_ret ?_ | refine cutB_ret ?_ | refine cutN_ret ?_ | refine cutN_exit ?_ | refine block_exit ?_ | (refine block_other ?_ ?_; exact rfl) | (refine xc_true ?_ ?_; exact rfl) | (refine xc_false ?_ ?_; exact rfl) | ((with_reducible apply xs_guard); exact rfl; exact rfl; intro c hc; (fail_if_success (have : true = c := hc)); (fail_if_success (have : false = c := hc)); cases c) | (refine xc_if rfl (fun hc => ?_) (fun hc => ?_)) | (refine xc_cond rfl (fun hc => ?_) (fun hc => ?_)))
  refine dr [14] hs (k := ?_); intro hX w hs
  refine tk 0 hX (k := ?_)
  refine tk 1 hX (k := ?_)
  refine tk 2 hX (k := ?_)
  refine tk 3 hX (k := ?_)
  refine tk 4 hX (k := ?_)
  refine tk 5 hX (k := ?_)
  refine tk 6 hX (k := ?_)
  refine tk 7 hX (k := ?_)
  refine tk 8 hX (k := ?_)
  refine tk 9 hX (k := ?_)
  refine tk 10 hX (k := ?_)
  refine tk 11 hX (k := ?_)
  refine tk 12 hX (k := ?_)
  refine tk 13 hX (k := ?_)
  refine dt 14 hX (k := ?_)
  repeat' (first | refine vs (k := ?_) | refine ps (k := ?_) | (refine st hs (k := ?_); intro w hs) | (refine stA hs (k := ?_); intro w hs) | (refine al hs (k := ?_); intro b w hz hs) | (refine bx hs (k := ?_); intro b w hz hs) | (refine bs hs (k := ?_); intro b w hz hs) | refine XS.nil ?_ | refine then_of ?_ | refine xc_seq ?_ | (refine xc_region ?_ ?_; exact rfl) | refine xc_block ?_ | refine block_normal ?_ | refine xc_ret ?_ | refine then_ret ?_ | refine block_ret ?_ | refine xc_skip ?_ | refine xc_exit ?_ | refine then_exit ?_ | refine loopS_exit ?_ | refine loopS_ret ?_ | refine cutB_ret ?_ | refine cutN_ret ?_ | refine cutN_exit ?_ | refine block_exit ?_ | (refine block_other ?_ ?_; exact rfl) | (refine xc_true ?_ ?_; exact rfl) | (refine xc_false ?_ ?_; exact rfl) | ((with_reducible apply xs_guard); exact rfl; exact rfl; intro c hc; (fail_if_success (have : true = c := hc)); (fail_if_success (have : false = c := hc)); cases c) | (refine xc_if rfl (fun hc => ?_) (fun hc => ?_)) | (refine xc_cond rfl (fun hc => ?_) (fun hc => ?_)))
  refine dn (k := ?_)
  refine en (k := ?_)
  repeat' (first | refine vs (k := ?_) | refine ps (k := ?_) | (refine st hs (k := ?_); intro w hs) | (refine stA hs (k := ?_); intro w hs) | (refine al hs (k := ?_); intro b w hz hs) | (refine bx hs (k := ?_); intro b w hz hs) | (refine bs hs (k := ?_); intro b w hz hs) | refine XS.nil ?_ | refine then_of ?_ | refine xc_seq ?_ | (refine xc_region ?_ ?_; exact rfl) | refine xc_block ?_ | refine block_normal ?_ | refine xc_ret ?_ | refine then_ret ?_ | refine block_ret ?_ | refine xc_skip ?_ | refine xc_exit ?_ | refine then_exit ?_ | refine loopS_exit ?_ | refine loopS_ret ?_ | refine cutB_ret ?_ | refine cutN_ret ?_ | refine cutN_exit ?_ | refine block_exit ?_ | (refine block_other ?_ ?_; exact rfl) | (refine xc_true ?_ ?_; exact rfl) | (refine xc_false ?_ ?_; exact rfl) | ((with_reducible apply xs_guard); exact rfl; exact rfl; intro c hc; (fail_if_success (have : true = c := hc)); (fail_if_success (have : false = c := hc)); cases c) | (refine xc_if rfl (fun hc => ?_) (fun hc => ?_)) | (refine xc_cond rfl (fun hc => ?_) (fun hc => ?_)))
  refine dr [14] hs (k := ?_); intro hX w hs
  refine tk 0 hX (k := ?_)
  refine tk 1 hX (k := ?_)
  refine tk 2 hX (k := ?_)
  refine tk 3 hX (k := ?_)
  refine tk 4 hX (k := ?_)
  refine tk 5 hX (k := ?_)
  refine tk 6 hX (k := ?_)
  refine tk 7 hX (k := ?_)
  refine tk 8 hX (k := ?_)
  refine tk 9 hX (k := ?_)
  refine tk 10 hX (k := ?_)
  refine tk 11 hX (k := ?_)
  refine tk 12 hX (k := ?_)
  refine tk 13 hX (k := ?_)
  refine dt 14 hX (k := ?_)
  repeat' (first | refine vs (k := ?_) | refine ps (k := ?_) | (refine st hs (k := ?_); intro w hs) | (refine stA hs (k := ?_); intro w hs) | (refine al hs (k := ?_); intro b w hz hs) | (refine bx hs (k := ?_); intro b w hz hs) | (refine bs hs (k := ?_); intro b w hz hs) | refine XS.nil ?_ | refine then_of ?_ | refine xc_seq ?_ | (refine xc_region ?_ ?_; exact rfl) | refine xc_block ?_ | refine block_normal ?_ | refine xc_ret ?_ | refine then_ret ?_ | refine block_ret ?_ | refine xc_skip ?_ | refine xc_exit ?_ | refine then_exit ?_ | refine loopS_exit ?_ | refine loopS_ret ?_ | refine cutB_ret ?_ | refine cutN_ret ?_ | refine cutN_exit ?_ | refine block_exit ?_ | (refine block_other ?_ ?_; exact rfl) | (refine xc_true ?_ ?_; exact rfl) | (refine xc_false ?_ ?_; exact rfl) | ((with_reducible apply xs_guard); exact rfl; exact rfl; intro c hc; (fail_if_success (have : true = c := hc)); (fail_if_success (have : false = c := hc)); cases c) | (refine xc_if rfl (fun hc => ?_) (fun hc => ?_)) | (refine xc_cond rfl (fun hc => ?_) (fun hc => ?_)))
  refine dn (k := ?_)
  refine en (k := ?_)
  repeat' (first | refine vs (k := ?_) | refine ps (k := ?_) | (refine st hs (k := ?_); intro w hs) | (refine stA hs (k := ?_); intro w hs) | (refine al hs (k := ?_); intro b w hz hs) | (refine bx hs (k := ?_); intro b w hz hs) | (refine bs hs (k := ?_); intro b w hz hs) | refine XS.nil ?_ | refine then_of ?_ | refine xc_seq ?_ | (refine xc_region ?_ ?_; exact rfl) | refine xc_block ?_ | refine block_normal ?_ | refine xc_ret ?_ | refine then_ret ?_ | refine block_ret ?_ | refine xc_skip ?_ | refine xc_exit ?_ | refine then_exit ?_ | refine loopS_exit ?_ | refine loopS_ret ?_ | refine cutB_ret ?_ | refine cutN_ret ?_ | refine cutN_exit ?_ | refine block_exit ?_ | (refine block_other ?_ ?_; exact rfl) | (refine xc_true ?_ ?_; exact rfl) | (refine xc_false ?_ ?_; exact rfl) | ((with_reducible apply xs_guard); exact rfl; exact rfl; intro c hc; (fail_if_success (have : true = c := hc)); (fail_if_success (have : false = c := hc)); cases c) | (refine xc_if rfl (fun hc => ?_) (fun hc => ?_)) | (refine xc_cond rfl (fun hc => ?_) (fun hc => ?_)))
  first | refine rt' (vs := []) (hr := resOk_nil) (hq := ?_) | refine rt (vs := []) (hr := resOk_nil) (hq := ?_)
  have ho1 : Only [v, u, m] w0 _ := hs.onlyF [v, u, m] (by simp) (by simp [D0])
  refine ⟨⟨m, av, _, _, _, _, rfl, rfl, hs.get (At.tail (At.tail At.head)), hav.keep ho1 hNb, ⟨u, avu, pa, pb, fa, fb, rfl, rfl, hs.get (At.tail At.head), hau.keep ho1 hNb, ha.keep ho1 hNb d4, hb.keep ho1 hNb d5⟩, ⟨v, avv, pd, pe, fd, fe, rfl, rfl, hs.get At.head, hav2.keep ho1 hNb, hd.keep ho1 hNb d6, he.keep ho1 hNb d7⟩⟩, ho1.weaken (by simp)⟩
end Go.Proofs.YtjooegonmdmajaaX
