/- rbtree: All; slices.Equal of numbers. -/
import Derived.Test.YtjooegonmdmajaaRb7
set_option linter.unusedVariables false
set_option linter.unusedSimpArgs false
set_option maxRecDepth 100000
namespace Go.Proofs.YtjooegonmdmajaaX
open Go Go.RowKit
attribute [local irreducible] XS XC XA thenE blockE retE loopE loopS cutB cutN doneE SE
theorem SlV.app {w w' : World} {v' : Value} {xs : List Int} {x : Int} {G : List Nat} (h : SlV w 3 1 v' (xs.length + 1) (ints xs ++ [.int .i64 x]) G) : SlV w 3 1 v' (xs ++ [x]).length (ints (xs ++ [x])) G := by
  rw [List.length_append, ← ints_snoc]
  exact h
set_option maxHeartbeats 2000000 in
theorem walk_ret : ∀ (t : RB Int) (p : Option Addr) (v0 : Value) (xs : List Int) (G : List Nat) (w0 : World) (h : ShapeAt w0 t p) (hO : SlV w0 3 1 v0 xs.length (ints xs) G) (hlen : xs.length + t.list.length ≤ 1000000),
    Ret Try.prog 65 #[.pointer p, v0] w0 fun v w' => ∃ G', SlV w' 3 1 v (xs ++ t.list).length (ints (xs ++ t.list)) G' ∧ (∀ k ∈ G', k ∈ G ∨ w0.heap.size ≤ k) ∧ Only G w0 w'
  | .nil, p, v0, xs, G, w0, h, hO, hlen => by
    have hp : p = none := h
    subst hp
    have hs := St.nil w0
    refine ret_of_xc Try.func65 (by kernel_rfl) rfl Try.ntmps65 rfl rfl rfl ?_
    repeat' (first | refine vs (k := ?_) | refine ps (k := ?_) | (refine st hs (k := ?_); intro w hs) | (refine stA hs (k := ?_); intro w hs) | (refine al hs (k := ?_); intro b w hz hs) | (refine bx hs (k := ?_); intro b w hz hs) | (refine bs hs (k := ?_); intro b w hz hs) | refine XS.nil ?_ | refine then_of ?_ | refine xc_seq ?_ | (refine xc_region ?_ ?_; exact rfl) | refine xc_block ?_ | refine block_normal ?_ | refine xc_ret ?_ | refine then_ret ?_ | refine block_ret ?_ | refine xc_skip ?_ | refine xc_exit ?_ | refine then_exit ?_ | refine loopS_exit ?_ | refine loopS_ret ?_ | refine cutB_ret ?_ | refine cutN_ret ?_ | refine cutN_exit ?_ | refine block_exit ?_ | (refine block_other ?_ ?_; exact rfl) | (refine xc_true ?_ ?_; exact rfl) | (refine xc_false ?_ ?_; exact rfl) | ((with_reducible apply xs_guard); exact rfl; exact rfl; intro c hc; (fail_if_success (have : true = c := hc)); (fail_if_success (have : false = c := hc)); cases c) | (refine xc_if rfl (fun hc => ?_) (fun hc => ?_)) | (refine xc_cond rfl (fun hc => ?_) (fun hc => ?_)))
    first | refine rt (hq := ?_) | refine rt' (hq := ?_)
    have ho := hs.only0 rfl
    rw [show xs ++ RB.nil.list = xs from List.append_nil xs]
    exact ⟨G, hO.keep ho (by simp), fun k hk => .inl hk, ho.weaken (by simp)⟩
  | .node l x r c, p, v0, xs, G, w0, ⟨b, av, pl, pr, hp, hb, hl, hr⟩, hO, hlen => by
    subst hp
    simp only [RB.list, List.length_append, List.length_cons] at hlen
    have hs := (St.nil w0).track hb (by simp)
    refine ret_of_xc Try.func65 (by kernel_rfl) rfl Try.ntmps65 rfl rfl rfl ?_
    repeat' (first | refine vs (k := ?_) | refine ps (k := ?_) | (refine st hs (k := ?_); intro w hs) | (refine stA hs (k := ?_); intro w hs) | (refine al hs (k := ?_); intro b w hz hs) | (refine bx hs (k := ?_); intro b w hz hs) | (refine bs hs (k := ?_); intro b w hz hs) | refine XS.nil ?_ | refine then_of ?_ | refine xc_seq ?_ | (refine xc_region ?_ ?_; exact rfl) | refine xc_block ?_ | refine block_normal ?_ | refine xc_ret ?_ | refine then_ret ?_ | refine block_ret ?_ | refine xc_skip ?_ | refine xc_exit ?_ | refine then_exit ?_ | refine loopS_exit ?_ | refine loopS_ret ?_ | refine cutB_ret ?_ | refine cutN_ret ?_ | refine cutN_exit ?_ | refine block_exit ?_ | (refine block_other ?_ ?_; exact rfl) | (refine xc_true ?_ ?_; exact rfl) | (refine xc_false ?_ ?_; exact rfl) | ((with_reducible apply xs_guard); exact rfl; exact rfl; intro c hc; (fail_if_success (have : true = c := hc)); (fail_if_success (have : false = c := hc)); cases c) | (refine xc_if rfl (fun hc => ?_) (fun hc => ?_)) | (refine xc_cond rfl (fun hc => ?_) (fun hc => ?_)))
    refine dr [] hs (k := ?_); intro hX w hs
    refine tk 0 hX (k := ?_)
    refine tk 1 hX (k := ?_)
    refine tk 2 hX (k := ?_)
    refine tk 3 hX (k := ?_)
    refine tk 4 hX (k := ?_)
    refine tk 5 hX (k := ?_)
    refine tk 6 hX (k := ?_)
    refine tk 7 hX (k := ?_)
    refine tk 8 hX (k := ?_)
    refine tk 10 hX (k := ?_)
    refine tk 11 hX (k := ?_)
    refine tk 12 hX (k := ?_)
    refine tk 13 hX (k := ?_)
    have fin : ∀ (b2 : Nat) (w3 : World) (v1 : Value) (G1 : List Nat) (hO1 : SlV w3 3 1 v1 (xs ++ l.list).length (ints (xs ++ l.list)) G1) (hG1 : ∀ k ∈ G1, k ∈ G ∨ w0.heap.size ≤ k) (ho3 : Only G w0 w3) (hb2 : w3.heap[b2]? = some (.cells #[.int .i64 x] 3 (0, 0))) (v2 : Value) (w4 : World) (h4 : (∃ G', SlV w4 3 1 v2 ((xs ++ l.list).length + 1) (ints (xs ++ l.list) ++ [.int .i64 x]) G' ∧ ∀ i ∈ G', i ∈ G1 ∨ w3.heap.size ≤ i)) (ho4 : Only G1 w3 w4), 
        Only G w0 w4 ∧ ∃ G2, SlV w4 3 1 v2 (xs ++ l.list ++ [x]).length (ints (xs ++ l.list ++ [x])) G2 ∧ (∀ k ∈ G2, k ∈ G ∨ w0.heap.size ≤ k) ∧ ShapeAt w4 r pr ∧ w4.heap[b]? = some (nodeO x av pl pr c) := by
      intro b2 w3 v1 G1 hO1 hG1 ho3 hb2 v2 w4 ⟨G2, hO2, hG2⟩ ho4
      have hsz := ho3.size
      have hn := hO.noNode
      have hn1 := hO1.noNode
      have hb3 := ho3.block hb (fun hm => hn b hm _ _ hb)
      refine ⟨ho3.step ho4 hG1, G2, SlV.app (w' := w4) hO2, fun k hk => ?_, ((hr.keep ho3 hn).keep ho4 hn1), ho4.block hb3 (fun hm => hn1 b hm _ _ hb3)⟩
      rcases hG2 k hk with h | h
      · exact hG1 k h
      · exact .inr (by omega)
    have hn := hO.noNode
    have hbG : b ∉ G := fun hm => hn b hm _ _ hb
    have ho1 : Only [] w0 _ := hs.onlyF [] (by simp [hb]) (by simp [D0])
    refine xa_do2 9 14 hX (h1 := ?_) (h2 := ?_)
    · (with_reducible apply xs_call); exact rfl; exact rfl; exact walk_ret l pl v0 xs G _ (hl.keep ho1 (fun b h => by cases h)) (hO.keep ho1 (by simp)) (by omega)
      rintro v1 w1 ⟨G1, hO1, hG1, ho2⟩
      have ho3 : Only G w0 w1 := (ho1.weaken (by simp)).step ho2 (fun k hk => .inl hk)
      have hsz := ho1.size
      have hb1 := ho3.block hb hbG
      clear hs
      have hs := (St.nil w1).track hb1 (by simp)
      repeat' (first | refine vs (k := ?_) | refine ps (k := ?_) | (refine st hs (k := ?_); intro w hs) | (refine stA hs (k := ?_); intro w hs) | (refine al hs (k := ?_); intro b w hz hs) | (refine bx hs (k := ?_); intro b w hz hs) | (refine bs hs (k := ?_); intro b w hz hs) | refine XS.nil ?_ | refine then_of ?_ | refine xc_seq ?_ | (refine xc_region ?_ ?_; exact rfl) | refine xc_block ?_ | refine block_normal ?_ | refine xc_ret ?_ | refine then_ret ?_ | refine block_ret ?_ | refine xc_skip ?_ | refine xc_exit ?_ | refine then_exit ?_ | refine loopS_exit ?_ | refine loopS_ret ?_ | refine cutB_ret ?_ | refine cutN_ret ?_ | refine cutN_exit ?_ | refine block_exit ?_ | (refine block_other ?_ ?_; exact rfl) | (refine xc_true ?_ ?_; exact rfl) | (refine xc_false ?_ ?_; exact rfl) | ((with_reducible apply xs_guard); exact rfl; exact rfl; intro c hc; (fail_if_success (have : true = c := hc)); (fail_if_success (have : false = c := hc)); cases c) | (refine xc_if rfl (fun hc => ?_) (fun hc => ?_)) | (refine xc_cond rfl (fun hc => ?_) (fun hc => ?_)))
      refine dn (k := ?_)
      refine dt 14 hX (k := ?_)
      refine bs hs (k := ?_); intro b2 w2 hz2 hs
      repeat' (first | refine vs (k := ?_) | refine ps (k := ?_) | (refine st hs (k := ?_); intro w hs) | (refine stA hs (k := ?_); intro w hs) | (refine al hs (k := ?_); intro b w hz hs) | (refine bx hs (k := ?_); intro b w hz hs) | (refine bs hs (k := ?_); intro b w hz hs) | refine XS.nil ?_ | refine then_of ?_ | refine xc_seq ?_ | (refine xc_region ?_ ?_; exact rfl) | refine xc_block ?_ | refine block_normal ?_ | refine xc_ret ?_ | refine then_ret ?_ | refine block_ret ?_ | refine xc_skip ?_ | refine xc_exit ?_ | refine then_exit ?_ | refine loopS_exit ?_ | refine loopS_ret ?_ | refine cutB_ret ?_ | refine cutN_ret ?_ | refine cutN_exit ?_ | refine block_exit ?_ | (refine block_other ?_ ?_; exact rfl) | (refine xc_true ?_ ?_; exact rfl) | (refine xc_false ?_ ?_; exact rfl) | ((with_reducible apply xs_guard); exact rfl; exact rfl; intro c hc; (fail_if_success (have : true = c := hc)); (fail_if_success (have : false = c := hc)); cases c) | (refine xc_if rfl (fun hc => ?_) (fun hc => ?_)) | (refine xc_cond rfl (fun hc => ?_) (fun hc => ?_)))
      refine dn (k := ?_)
      refine dt 15 hX (k := ?_)
      have hnew := hs.new (b2, true) (by simp) rfl
      have ho4 : Only [] w1 w2 := hs.onlyF [] (by simp [hb1]) (by simp [D0])
      have hO1' := hO1.keep ho4 (by simp)
      have hb2 := hs.get At.head
      have ho5 : Only G w0 w2 := ho3.step ho4 (by simp)
      refine xs_appendW tabOk rfl rfl rfl rfl rfl rfl rfl (by decide) (lit_cells (news := [.int .i64 x]) hb2) (by simp [Value.oneCell']) hO1' (by simp only [List.length_append]; omega) (by simp only [List.length_append]; omega) ?_
      intro v2 w3 h3 ho6
      obtain ⟨ho7, G2, hO2, hG2, hr2, hb3⟩ := fin b2 w2 v1 G1 hO1' (fun k hk => by rcases hG1 k hk with h | h; exact .inl h; exact .inr (by omega)) ho5 hb2 v2 w3 h3 ho6
      clear hs
      have hs := (St.nil w3).track hb3 (by simp)
      repeat' (first | refine vs (k := ?_) | refine ps (k := ?_) | (refine st hs (k := ?_); intro w hs) | (refine stA hs (k := ?_); intro w hs) | (refine al hs (k := ?_); intro b w hz hs) | (refine bx hs (k := ?_); intro b w hz hs) | (refine bs hs (k := ?_); intro b w hz hs) | refine XS.nil ?_ | refine then_of ?_ | refine xc_seq ?_ | (refine xc_region ?_ ?_; exact rfl) | refine xc_block ?_ | refine block_normal ?_ | refine xc_ret ?_ | refine then_ret ?_ | refine block_ret ?_ | refine xc_skip ?_ | refine xc_exit ?_ | refine then_exit ?_ | refine loopS_exit ?_ | refine loopS_ret ?_ | refine cutB_ret ?_ | refine cutN_ret ?_ | refine cutN_exit ?_ | refine block_exit ?_ | (refine block_other ?_ ?_; exact rfl) | (refine xc_true ?_ ?_; exact rfl) | (refine xc_false ?_ ?_; exact rfl) | ((with_reducible apply xs_guard); exact rfl; exact rfl; intro c hc; (fail_if_success (have : true = c := hc)); (fail_if_success (have : false = c := hc)); cases c) | (refine xc_if rfl (fun hc => ?_) (fun hc => ?_)) | (refine xc_cond rfl (fun hc => ?_) (fun hc => ?_)))
      refine dn (k := ?_)
      refine dt 16 hX (k := ?_)
      (with_reducible apply xs_call); exact rfl; exact rfl; exact walk_ret r pr v2 (xs ++ l.list ++ [x]) G2 _ hr2 hO2 (by simp only [List.length_append, List.length_cons, List.length_nil]; omega)
      rintro v3 w4 ⟨G3, hO3, hG3, ho8⟩
      have hb4 := ho8.block hb3 (fun hm => hO2.noNode b hm _ _ hb3)
      clear hs
      have hs := (St.nil w4).track hb4 (by simp)
      repeat' (first | refine vs (k := ?_) | refine ps (k := ?_) | (refine st hs (k := ?_); intro w hs) | (refine stA hs (k := ?_); intro w hs) | (refine al hs (k := ?_); intro b w hz hs) | (refine bx hs (k := ?_); intro b w hz hs) | (refine bs hs (k := ?_); intro b w hz hs) | refine XS.nil ?_ | refine then_of ?_ | refine xc_seq ?_ | (refine xc_region ?_ ?_; exact rfl) | refine xc_block ?_ | refine block_normal ?_ | refine xc_ret ?_ | refine then_ret ?_ | refine block_ret ?_ | refine xc_skip ?_ | refine xc_exit ?_ | refine then_exit ?_ | refine loopS_exit ?_ | refine loopS_ret ?_ | refine cutB_ret ?_ | refine cutN_ret ?_ | refine cutN_exit ?_ | refine block_exit ?_ | (refine block_other ?_ ?_; exact rfl) | (refine xc_true ?_ ?_; exact rfl) | (refine xc_false ?_ ?_; exact rfl) | ((with_reducible apply xs_guard); exact rfl; exact rfl; intro c hc; (fail_if_success (have : true = c := hc)); (fail_if_success (have : false = c := hc)); cases c) | (refine xc_if rfl (fun hc => ?_) (fun hc => ?_)) | (refine xc_cond rfl (fun hc => ?_) (fun hc => ?_)))
      refine dn (k := ?_)
      refine tk 17 hX (k := ?_)
      refine en (k := ?_)
      repeat' (first | refine vs (k := ?_) | refine ps (k := ?_) | (refine st hs (k := ?_); intro w hs) | (refine stA hs (k := ?_); intro w hs) | (refine al hs (k := ?_); intro b w hz hs) | (refine bx hs (k := ?_); intro b w hz hs) | (refine bs hs (k := ?_); intro b w hz hs) | refine XS.nil ?_ | refine then_of ?_ | refine xc_seq ?_ | (refine xc_region ?_ ?_; exact rfl) | refine xc_block ?_ | refine block_normal ?_ | refine xc_ret ?_ | refine then_ret ?_ | refine block_ret ?_ | refine xc_skip ?_ | refine xc_exit ?_ | refine then_exit ?_ | refine loopS_exit ?_ | refine loopS_ret ?_ | refine cutB_ret ?_ | refine cutN_ret ?_ | refine cutN_exit ?_ | refine block_exit ?_ | (refine block_other ?_ ?_; exact rfl) | (refine xc_true ?_ ?_; exact rfl) | (refine xc_false ?_ ?_; exact rfl) | ((with_reducible apply xs_guard); exact rfl; exact rfl; intro c hc; (fail_if_success (have : true = c := hc)); (fail_if_success (have : false = c := hc)); cases c) | (refine xc_if rfl (fun hc => ?_) (fun hc => ?_)) | (refine xc_cond rfl (fun hc => ?_) (fun hc => ?_)))
      first | refine rt (hq := ?_) | refine rt' (hq := ?_)
      rw [show xs ++ l.list ++ [x] ++ r.list = xs ++ (RB.node l x r c).list by simp [RB.list]] at hO3
      have hsz2 := ho7.size
      have ho9 : Only [] w4 _ := hs.onlyF [] (by simp [hb4]) (by simp [D0])
      exact ⟨G3, hO3.keep ho9 (by simp), fun k hk => by rcases hG3 k hk with h | h; exact hG2 k h; exact .inr (by omega), (ho7.step ho8 hG2).step ho9 (by simp)⟩
    · refine bs hs (k := ?_); intro b2 w2 hz2 hs
      repeat' (first | refine vs (k := ?_) | refine ps (k := ?_) | (refine st hs (k := ?_); intro w hs) | (refine stA hs (k := ?_); intro w hs) | (refine al hs (k := ?_); intro b w hz hs) | (refine bx hs (k := ?_); intro b w hz hs) | (refine bs hs (k := ?_); intro b w hz hs) | refine XS.nil ?_ | refine then_of ?_ | refine xc_seq ?_ | (refine xc_region ?_ ?_; exact rfl) | refine xc_block ?_ | refine block_normal ?_ | refine xc_ret ?_ | refine then_ret ?_ | refine block_ret ?_ | refine xc_skip ?_ | refine xc_exit ?_ | refine then_exit ?_ | refine loopS_exit ?_ | refine loopS_ret ?_ | refine cutB_ret ?_ | refine cutN_ret ?_ | refine cutN_exit ?_ | refine block_exit ?_ | (refine block_other ?_ ?_; exact rfl) | (refine xc_true ?_ ?_; exact rfl) | (refine xc_false ?_ ?_; exact rfl) | ((with_reducible apply xs_guard); exact rfl; exact rfl; intro c hc; (fail_if_success (have : true = c := hc)); (fail_if_success (have : false = c := hc)); cases c) | (refine xc_if rfl (fun hc => ?_) (fun hc => ?_)) | (refine xc_cond rfl (fun hc => ?_) (fun hc => ?_)))
      refine dn (k := ?_)
      refine dt 9 hX (k := ?_)
      have hnew := hs.new (b2, true) (by simp) rfl
      have ho4 : Only [] w0 w2 := hs.onlyF [] (by simp [hb]) (by simp [D0])
      have hb2 := hs.get At.head
      (with_reducible apply xs_call); exact rfl; exact rfl; exact walk_ret l pl v0 xs G _ (hl.keep ho4 (fun b h => by cases h)) (hO.keep ho4 (by simp)) (by omega)
      rintro v1 w1 ⟨G1, hO1, hG1, ho2⟩
      have ho3 : Only G w0 w1 := (ho4.weaken (by simp)).step ho2 (fun k hk => .inl hk)
      have hsz := ho4.size
      have hb1 := ho3.block hb hbG
      have hb21 := ho2.block hb2 (fun hm => by have := hO.lt b2 hm; omega)
      clear hs
      have hs := (St.nil w1).track hb1 (by simp)
      repeat' (first | refine vs (k := ?_) | refine ps (k := ?_) | (refine st hs (k := ?_); intro w hs) | (refine stA hs (k := ?_); intro w hs) | (refine al hs (k := ?_); intro b w hz hs) | (refine bx hs (k := ?_); intro b w hz hs) | (refine bs hs (k := ?_); intro b w hz hs) | refine XS.nil ?_ | refine then_of ?_ | refine xc_seq ?_ | (refine xc_region ?_ ?_; exact rfl) | refine xc_block ?_ | refine block_normal ?_ | refine xc_ret ?_ | refine then_ret ?_ | refine block_ret ?_ | refine xc_skip ?_ | refine xc_exit ?_ | refine then_exit ?_ | refine loopS_exit ?_ | refine loopS_ret ?_ | refine cutB_ret ?_ | refine cutN_ret ?_ | refine cutN_exit ?_ | refine block_exit ?_ | (refine block_other ?_ ?_; exact rfl) | (refine xc_true ?_ ?_; exact rfl) | (refine xc_false ?_ ?_; exact rfl) | ((with_reducible apply xs_guard); exact rfl; exact rfl; intro c hc; (fail_if_success (have : true = c := hc)); (fail_if_success (have : false = c := hc)); cases c) | (refine xc_if rfl (fun hc => ?_) (fun hc => ?_)) | (refine xc_cond rfl (fun hc => ?_) (fun hc => ?_)))
      refine dn (k := ?_)
      refine dt 15 hX (k := ?_)
      refine xs_appendW tabOk rfl rfl rfl rfl rfl rfl rfl (by decide) (lit_cells (news := [.int .i64 x]) hb21) (by simp [Value.oneCell']) hO1 (by simp only [List.length_append]; omega) (by simp only [List.length_append]; omega) ?_
      intro v2 w3 h3 ho6
      obtain ⟨ho7, G2, hO2, hG2, hr2, hb3⟩ := fin b2 w1 v1 G1 hO1 (fun k hk => by rcases hG1 k hk with h | h; exact .inl h; exact .inr (by omega)) ho3 hb21 v2 w3 h3 ho6
      clear hs
      have hs := (St.nil w3).track hb3 (by simp)
      repeat' (first | refine vs (k := ?_) | refine ps (k := ?_) | (refine st hs (k := ?_); intro w hs) | (refine stA hs (k := ?_); intro w hs) | (refine al hs (k := ?_); intro b w hz hs) | (refine bx hs (k := ?_); intro b w hz hs) | (refine bs hs (k := ?_); intro b w hz hs) | refine XS.nil ?_ | refine then_of ?_ | refine xc_seq ?_ | (refine xc_region ?_ ?_; exact rfl) | refine xc_block ?_ | refine block_normal ?_ | refine xc_ret ?_ | refine then_ret ?_ | refine block_ret ?_ | refine xc_skip ?_ | refine xc_exit ?_ | refine then_exit ?_ | refine loopS_exit ?_ | refine loopS_ret ?_ | refine cutB_ret ?_ | refine cutN_ret ?_ | refine cutN_exit ?_ | refine block_exit ?_ | (refine block_other ?_ ?_; exact rfl) | (refine xc_true ?_ ?_; exact rfl) | (refine xc_false ?_ ?_; exact rfl) | ((with_reducible apply xs_guard); exact rfl; exact rfl; intro c hc; (fail_if_success (have : true = c := hc)); (fail_if_success (have : false = c := hc)); cases c) | (refine xc_if rfl (fun hc => ?_) (fun hc => ?_)) | (refine xc_cond rfl (fun hc => ?_) (fun hc => ?_)))
      refine dn (k := ?_)
      refine dt 16 hX (k := ?_)
      (with_reducible apply xs_call); exact rfl; exact rfl; exact walk_ret r pr v2 (xs ++ l.list ++ [x]) G2 _ hr2 hO2 (by simp only [List.length_append, List.length_cons, List.length_nil]; omega)
      rintro v3 w4 ⟨G3, hO3, hG3, ho8⟩
      have hb4 := ho8.block hb3 (fun hm => hO2.noNode b hm _ _ hb3)
      clear hs
      have hs := (St.nil w4).track hb4 (by simp)
      repeat' (first | refine vs (k := ?_) | refine ps (k := ?_) | (refine st hs (k := ?_); intro w hs) | (refine stA hs (k := ?_); intro w hs) | (refine al hs (k := ?_); intro b w hz hs) | (refine bx hs (k := ?_); intro b w hz hs) | (refine bs hs (k := ?_); intro b w hz hs) | refine XS.nil ?_ | refine then_of ?_ | refine xc_seq ?_ | (refine xc_region ?_ ?_; exact rfl) | refine xc_block ?_ | refine block_normal ?_ | refine xc_ret ?_ | refine then_ret ?_ | refine block_ret ?_ | refine xc_skip ?_ | refine xc_exit ?_ | refine then_exit ?_ | refine loopS_exit ?_ | refine loopS_ret ?_ | refine cutB_ret ?_ | refine cutN_ret ?_ | refine cutN_exit ?_ | refine block_exit ?_ | (refine block_other ?_ ?_; exact rfl) | (refine xc_true ?_ ?_; exact rfl) | (refine xc_false ?_ ?_; exact rfl) | ((with_reducible apply xs_guard); exact rfl; exact rfl; intro c hc; (fail_if_success (have : true = c := hc)); (fail_if_success (have : false = c := hc)); cases c) | (refine xc_if rfl (fun hc => ?_) (fun hc => ?_)) | (refine xc_cond rfl (fun hc => ?_) (fun hc => ?_)))
      refine dn (k := ?_)
      refine tk 17 hX (k := ?_)
      refine en (k := ?_)
      repeat' (first | refine vs (k := ?_) | refine ps (k := ?_) | (refine st hs (k := ?_); intro w hs) | (refine stA hs (k := ?_); intro w hs) | (refine al hs (k := ?_); intro b w hz hs) | (refine bx hs (k := ?_); intro b w hz hs) | (refine bs hs (k := ?_); intro b w hz hs) | refine XS.nil ?_ | refine then_of ?_ | refine xc_seq ?_ | (refine xc_region ?_ ?_; exact rfl) | refine xc_block ?_ | refine block_normal ?_ | refine xc_ret ?_ | refine then_ret ?_ | refine block_ret ?_ | refine xc_skip ?_ | refine xc_exit ?_ | refine then_exit ?_ | refine loopS_exit ?_ | refine loopS_ret ?_ | refine cutB_ret ?_ | refine cutN_ret ?_ | refine cutN_exit ?_ | refine block_exit ?_ | (refine block_other ?_ ?_; exact rfl) | (refine xc_true ?_ ?_; exact rfl) | (refine xc_false ?_ ?_; exact rfl) | ((with_reducible apply xs_guard); exact rfl; exact rfl; intro c hc; (fail_if_success (have : true = c := hc)); (fail_if_success (have : false = c := hc)); cases c) | (refine xc_if rfl (fun hc => ?_) (fun hc => ?_)) | (refine xc_cond rfl (fun hc => ?_) (fun hc => ?_)))
      first | refine rt (hq := ?_) | refine rt' (hq := ?_)
      rw [show xs ++ l.list ++ [x] ++ r.list = xs ++ (RB.node l x r c).list by simp [RB.list]] at hO3
      have hsz2 := ho7.size
      have ho9 : Only [] w4 _ := hs.onlyF [] (by simp [hb4]) (by simp [D0])
      exact ⟨G3, hO3.keep ho9 (by simp), fun k hk => by rcases hG3 k hk with h | h; exact hG2 k h; exact .inr (by omega), (ho7.step ho8 hG2).step ho9 (by simp)⟩
theorem rbAll_ret (tb : Nat) (t : RB Int) (F : List Nat) (w0 : World) (h : Obj6 w0 tb t F) (hlen : t.list.length ≤ 1000000) :
    Ret Try.prog 21 #[.pointer (some ⟨tb, 0, none⟩)] w0 fun v w' => DAt w' v t.list ∧ Only [] w0 w' := by
  obtain ⟨p, fp, rfl, hT, ht, hnd⟩ := h
  have hs := (St.nil w0).track hT (by simp)
  refine ret_of_xc Try.func21 (by kernel_rfl) rfl Try.ntmps21 rfl rfl rfl ?_
  repeat' (first | refine vs (k := ?_) | refine ps (k := ?_) | (refine st hs (k := ?_); intro w hs) | (refine stA hs (k := ?_); intro w hs) | (refine al hs (k := ?_); intro b w hz hs) | (refine bx hs (k := ?_); intro b w hz hs) | (refine bs hs (k := ?_); intro b w hz hs) | refine XS.nil ?_ | refine then_of ?_ | refine xc_seq ?_ | (refine xc_region ?_ ?_; exact rfl) | refine xc_block ?_ | refine block_normal ?_ | refine xc_ret ?_ | refine then_ret ?_ | refine block_ret ?_ | refine xc_skip ?_ | refine xc_exit ?_ | refine then_exit ?_ | refine loopS_exit ?_ | refine loopS_ret ?_ | refine cutB_ret ?_ | refine cutN_ret ?_ | refine cutN_exit ?_ | refine block_exit ?_ | (refine block_other ?_ ?_; exact rfl) | (refine xc_true ?_ ?_; exact rfl) | (refine xc_false ?_ ?_; exact rfl) | ((with_reducible apply xs_guard); exact rfl; exact rfl; intro c hc; (fail_if_success (have : true = c := hc)); (fail_if_success (have : false = c := hc)); cases c) | (refine xc_if rfl (fun hc => ?_) (fun hc => ?_)) | (refine xc_cond rfl (fun hc => ?_) (fun hc => ?_)))
  (with_reducible apply xs_call); exact rfl; exact rfl; exact walk_ret t p _ [] [] _ (ht.shape.keep (hs.onlyF [] (by simp [hT]) (by simp [D0])) (fun b h => by cases h)) (.inl ⟨rfl, rfl, rfl, rfl⟩) (by simpa using hlen)
  rintro v w' ⟨G, hO, _, ho⟩
  replace hs := hs.call0 ho
  rw [List.nil_append] at hO
  obtain ⟨ad, cap, rfl, hd⟩ := hO.dat
  obtain ⟨R, hs, hd⟩ := (show DAt w' (.slice ad t.list.length cap) t.list from ⟨ad, cap, rfl, hd⟩).read hs rfl
  repeat' (first | refine vs (k := ?_) | refine ps (k := ?_) | (refine st hs (k := ?_); intro w hs) | (refine stA hs (k := ?_); intro w hs) | (refine al hs (k := ?_); intro b w hz hs) | (refine bx hs (k := ?_); intro b w hz hs) | (refine bs hs (k := ?_); intro b w hz hs) | refine XS.nil ?_ | refine then_of ?_ | refine xc_seq ?_ | (refine xc_region ?_ ?_; exact rfl) | refine xc_block ?_ | refine block_normal ?_ | refine xc_ret ?_ | refine then_ret ?_ | refine block_ret ?_ | refine xc_skip ?_ | refine xc_exit ?_ | refine then_exit ?_ | refine loopS_exit ?_ | refine loopS_ret ?_ | refine cutB_ret ?_ | refine cutN_ret ?_ | refine cutN_exit ?_ | refine block_exit ?_ | (refine block_other ?_ ?_; exact rfl) | (refine xc_true ?_ ?_; exact rfl) | (refine xc_false ?_ ?_; exact rfl) | ((with_reducible apply xs_guard); exact rfl; exact rfl; intro c hc; (fail_if_success (have : true = c := hc)); (fail_if_success (have : false = c := hc)); cases c) | (refine xc_if rfl (fun hc => ?_) (fun hc => ?_)) | (refine xc_cond rfl (fun hc => ?_) (fun hc => ?_)))
  first | refine rt (hq := ?_) | refine rt' (hq := ?_)
  exact ⟨(hd _ (fun e he => hs.ro e (by simp [he]))), hs.onlyF [] (by simp [hT]) (by simp [D0])⟩
end Go.Proofs.YtjooegonmdmajaaX
