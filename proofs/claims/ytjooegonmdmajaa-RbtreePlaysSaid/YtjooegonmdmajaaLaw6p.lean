/- Layer 6: the body of law06.RbtreePlays. -/
import Derived.Test.YtjooegonmdmajaaTold6
import Derived.Test.YtjooegonmdmajaaLaw6d
set_option linter.unusedVariables false
set_option linter.unusedSimpArgs false
set_option maxRecDepth 100000
namespace Go.Proofs.YtjooegonmdmajaaX
open Go Go.RowKit
attribute [local irreducible] XS XC XA thenE blockE retE loopE loopS cutB cutN doneE SE
/-- The tree that was cloned. -/
def OldOk (w : World) (old : Option (Nat × List Int × List Nat × Value)) (F : List Nat) : Prop :=
  match old with
  | none => True
  | some (tb', xs', F', sl') => Set6 w tb' xs' F' ∧ DAt w sl' xs' ∧ (∀ k ∈ F', k ∉ F) ∧ xs'.length ≤ 200
def oldP : Option (Nat × List Int × List Nat × Value) → Value
  | none => .pointer none
  | some (tb', _, _, _) => .pointer (some ⟨tb', 0, none⟩)
def oldS : Option (Nat × List Int × List Nat × Value) → Value
  | none => .slice none 0 0
  | some (_, _, _, sl') => sl'
theorem OldOk.only {w w' : World} {old : Option (Nat × List Int × List Nat × Value)} {F : List Nat} (h : OldOk w old F) (ho : Only [] w w') : OldOk w' old F := by
  cases old with
  | none => trivial
  | some o =>
    obtain ⟨tb', xs', F', sl'⟩ := o
    obtain ⟨h1, h2, h3, h4⟩ := h
    exact ⟨h1.only ho, h2.only ho, h3, h4⟩
theorem OldOk.next {w w' : World} {old : Option (Nat × List Int × List Nat × Value)} {F F' : List Nat} (h : OldOk w old F) (ho : Only F w w') (hI : NoInt w F) (hF : ∀ k ∈ F', k ∈ F ∨ w.heap.size ≤ k) : OldOk w' old F' := by
  cases old with
  | none => trivial
  | some o =>
    obtain ⟨tb', xs', G, sl'⟩ := o
    obtain ⟨h1, h2, h3, h4⟩ := h
    refine ⟨h1.keep ho hI h3, h2.keepI ho hI, fun k hk hm => ?_, h4⟩
    rcases hF k hm with h | h
    · exact h3 k hk h
    · have := h1.lt k hk; omega
structure Plays (w0 : World) (tb : Nat) (xs : List Int) (F : List Nat) (sl : Value) (old : Option (Nat × List Int × List Nat × Value)) (w : World) : Prop where
  s : Set6 w tb xs F
  q : DAt w sl xs
  n : New w0 F
  o : Only [] w0 w
  old : OldOk w old F
theorem Plays.only {w0 w w' : World} {tb : Nat} {xs : List Int} {F : List Nat} {sl : Value} {old : Option (Nat × List Int × List Nat × Value)} (h : Plays w0 tb xs F sl old w) (ho : Only [] w w') : Plays w0 tb xs F sl old w' :=
  ⟨h.s.only ho, h.q.only ho, h.n, h.o.step ho (by simp), h.old.only ho⟩
theorem Obj6.noAct {w : World} {tb : Nat} {t : RB Int} {F : List Nat} (h : Obj6 w tb t F) : ∀ b ∈ F, ∀ cs fz, w.heap[b]? ≠ some (.cells cs 53 fz) := by
  obtain ⟨p, fp, rfl, hT, ht, _⟩ := h
  intro b hb cs fz e
  rcases List.mem_cons.1 hb with rfl | hb
  · rw [hT] at e; cases e
  · obtain ⟨_, _, h⟩ := ht.nodes b hb
    rw [h] at e; cases e
theorem Plays.act {w0 w : World} {tb : Nat} {xs : List Int} {F : List Nat} {sl : Value} {old : Option (Nat × List Int × List Nat × Value)} (h : Plays w0 tb xs F sl old w) : ∀ b ∈ F, ∀ cs fz, w.heap[b]? ≠ some (.cells cs 53 fz) := by
  obtain ⟨t, h, _⟩ := h.s
  exact h.noAct
theorem oldS_lit {w : World} {old : Option (Nat × List Int × List Nat × Value)} {F : List Nat} (h : OldOk w old F) : True := trivial
set_option maxHeartbeats 4000000 in
theorem rbtreePlays_ret (acts : List (Bool × Int)) (sl : Value) (c : Int) (w0 : World) (hA : AAt w0 sl acts) : Ret Try.prog 10 #[sl, .int .u8 c] w0 fun v w' => v = .bool true ∧ Only [] w0 w' := by
  obtain ⟨ad, cap, rfl, hD⟩ := hA
  have hs := St.nil w0
  refine ret_of_xc Try.func10 (by kernel_rfl) rfl Try.ntmps10 rfl rfl rfl ?_
  repeat' (first | refine vs (k := ?_) | refine ps (k := ?_) | (refine st hs (k := ?_); intro w hs) | (refine stA hs (k := ?_); intro w hs) | (refine al hs (k := ?_); intro b w hz hs) | (refine bx hs (k := ?_); intro b w hz hs) | (refine bs hs (k := ?_); intro b w hz hs) | refine XS.nil ?_ | refine then_of ?_ | refine xc_seq ?_ | (refine xc_region ?_ ?_; exact rfl) | refine xc_block ?_ | refine block_normal ?_ | refine xc_ret ?_ | refine then_ret ?_ | refine block_ret ?_ | refine xc_skip ?_ | refine xc_exit ?_ | refine then_exit ?_ | refine loopS_exit ?_ | refine loopS_ret ?_ | refine cutB_ret ?_ | refine cutN_ret ?_ | refine cutN_exit ?_ | refine block_exit ?_ | (refine block_other ?_ ?_; exact rfl) | (refine xc_true ?_ ?_; exact rfl) | (refine xc_false ?_ ?_; exact rfl) | ((with_reducible apply xs_guard); exact rfl; exact rfl; intro c hc; (fail_if_success (have : true = c := hc)); (fail_if_success (have : false = c := hc)); cases c) | (refine xc_if rfl (fun hc => ?_) (fun hc => ?_)) | (refine xc_cond rfl (fun hc => ?_) (fun hc => ?_)))
  (with_reducible apply xs_call); exact rfl; exact rfl; exact awake6_ret _
  rintro v w' ⟨rfl, ho⟩; replace hs := hs.call0 ho
  repeat' (first | refine vs (k := ?_) | refine ps (k := ?_) | (refine st hs (k := ?_); intro w hs) | (refine stA hs (k := ?_); intro w hs) | (refine al hs (k := ?_); intro b w hz hs) | (refine bx hs (k := ?_); intro b w hz hs) | (refine bs hs (k := ?_); intro b w hz hs) | refine XS.nil ?_ | refine then_of ?_ | refine xc_seq ?_ | (refine xc_region ?_ ?_; exact rfl) | refine xc_block ?_ | refine block_normal ?_ | refine xc_ret ?_ | refine then_ret ?_ | refine block_ret ?_ | refine xc_skip ?_ | refine xc_exit ?_ | refine then_exit ?_ | refine loopS_exit ?_ | refine loopS_ret ?_ | refine cutB_ret ?_ | refine cutN_ret ?_ | refine cutN_exit ?_ | refine block_exit ?_ | (refine block_other ?_ ?_; exact rfl) | (refine xc_true ?_ ?_; exact rfl) | (refine xc_false ?_ ?_; exact rfl) | ((with_reducible apply xs_guard); exact rfl; exact rfl; intro c hc; (fail_if_success (have : true = c := hc)); (fail_if_success (have : false = c := hc)); cases c) | (refine xc_if rfl (fun hc => ?_) (fun hc => ?_)) | (refine xc_cond rfl (fun hc => ?_) (fun hc => ?_)))
  · first | refine rt (hq := ?_) | refine rt' (hq := ?_)
    exact ⟨rfl, hs.only0 rfl⟩
  · have hlen : acts.length ≤ 200 := by omega
    have oA := hs.only0 rfl
    (with_reducible apply xs_call); exact rfl; exact rfl; exact setNew_ret _
    rintro v w1 ⟨tb, F0, rfl, h0, hn0, ho⟩
    have o0 := oA.step ho (by simp)
    have n0 : New w0 F0 := fun k hk => Nat.le_trans oA.size (hn0 k hk)
    clear hs
    have hs := St.nil w1
    repeat' (first | refine vs (k := ?_) | refine ps (k := ?_) | (refine st hs (k := ?_); intro w hs) | (refine stA hs (k := ?_); intro w hs) | (refine al hs (k := ?_); intro b w hz hs) | (refine bx hs (k := ?_); intro b w hz hs) | (refine bs hs (k := ?_); intro b w hz hs) | refine XS.nil ?_ | refine then_of ?_ | refine xc_seq ?_ | (refine xc_region ?_ ?_; exact rfl) | refine xc_block ?_ | refine block_normal ?_ | refine xc_ret ?_ | refine then_ret ?_ | refine block_ret ?_ | refine xc_skip ?_ | refine xc_exit ?_ | refine then_exit ?_ | refine loopS_exit ?_ | refine loopS_ret ?_ | refine cutB_ret ?_ | refine cutN_ret ?_ | refine cutN_exit ?_ | refine block_exit ?_ | (refine block_other ?_ ?_; exact rfl) | (refine xc_true ?_ ?_; exact rfl) | (refine xc_false ?_ ?_; exact rfl) | ((with_reducible apply xs_guard); exact rfl; exact rfl; intro c hc; (fail_if_success (have : true = c := hc)); (fail_if_success (have : false = c := hc)); cases c) | (refine xc_if rfl (fun hc => ?_) (fun hc => ?_)) | (refine xc_cond rfl (fun hc => ?_) (fun hc => ?_)))
    have hP0 : Plays w0 tb [] F0 (.slice none 0 0) none _ := Plays.only ⟨h0, ⟨none, 0, rfl, fun h => absurd rfl h⟩, n0, o0, trivial⟩ (hs.only0 rfl)
    refine xc_cutB (fun (s : Option (Nat × List Int × List Nat × Value)) => [(4, .bool false), (7, oldS s), (8, oldP s)]) (fun s w => Only [] w0 w ∧ ∃ F, OldOk w s F) ?_ ?_
    · refine xc_loopS (fun (s : Nat × Nat × List Int × List Nat × Value × Option (Nat × List Int × List Nat × Value)) => [(1, .int .u8 c), (4, .bool false), (19, .slice ad acts.length cap), (20, .int .i64 (acts.length : Nat)), (5, .pointer (some ⟨s.2.1, 0, none⟩)), (6, s.2.2.2.2.1), (7, oldS s.2.2.2.2.2), (8, oldP s.2.2.2.2.2), (21, .int .i64 (s.1 : Nat))])
        (fun s w => s.1 ≤ acts.length ∧ s.2.2.1.length ≤ s.1 ∧ Plays w0 s.2.1 s.2.2.1 s.2.2.2.1 s.2.2.2.2.1 s.2.2.2.2.2 w)
        (fun s => acts.length - s.1) (0, tb, [], F0, .slice none 0 0, none) (by (repeat (first | exact agree_nil | (apply agree_cons; exact rfl)))) ⟨Nat.zero_le _, Nat.le_refl _, hP0⟩ fun s env w2 ⟨hi, hxl, hP⟩ => ?_
      clear hs hP0
      obtain ⟨i, tb1, xs, F, sl1, old⟩ := s
      dsimp only at hi hxl hP ⊢
      have hs := St.nil w2
      repeat' (first | refine vs (k := ?_) | refine ps (k := ?_) | (refine st hs (k := ?_); intro w hs) | (refine stA hs (k := ?_); intro w hs) | (refine al hs (k := ?_); intro b w hz hs) | (refine bx hs (k := ?_); intro b w hz hs) | (refine bs hs (k := ?_); intro b w hz hs) | refine XS.nil ?_ | refine then_of ?_ | refine xc_seq ?_ | (refine xc_region ?_ ?_; exact rfl) | refine xc_block ?_ | refine block_normal ?_ | refine xc_ret ?_ | refine then_ret ?_ | refine block_ret ?_ | refine xc_skip ?_ | refine xc_exit ?_ | refine then_exit ?_ | refine loopS_exit ?_ | refine loopS_ret ?_ | refine cutB_ret ?_ | refine cutN_ret ?_ | refine cutN_exit ?_ | refine block_exit ?_ | (refine block_other ?_ ?_; exact rfl) | (refine xc_true ?_ ?_; exact rfl) | (refine xc_false ?_ ?_; exact rfl) | ((with_reducible apply xs_guard); exact rfl; exact rfl; intro c hc; (fail_if_success (have : true = c := hc)); (fail_if_success (have : false = c := hc)); cases c) | (refine xc_if rfl (fun hc => ?_) (fun hc => ?_)) | (refine xc_cond rfl (fun hc => ?_) (fun hc => ?_)))
      · have hlt : i < acts.length := by omega
        obtain ⟨b, off, cs, E, fz, rfl, hb, hcs⟩ := hD (fun h => by subst h; cases hlt)
        obtain ⟨g0, g1⟩ := hcs i _ (List.getElem?_eq_getElem hlt)
        generalize acts[i] = a at *
        obtain ⟨out, x⟩ := a
        dsimp only at g0 g1
        have ei : IntKind.i64.wrap ((i : Int) + 1) = ((i + 1 : Nat) : Int) := next64' hlt (by omega)
        refine ix (h0 := (by omega)) (h1 := (by omega)) (k := ?_)
        refine lh2 (hP.o.block hb (by simp)) g0 g1 (k := ?_)
        refine al hs (k := ?_); intro b6 w hz hs
        repeat' (first | refine vs (k := ?_) | refine ps (k := ?_) | (refine st hs (k := ?_); intro w hs) | (refine stA hs (k := ?_); intro w hs) | (refine al hs (k := ?_); intro b w hz hs) | (refine bx hs (k := ?_); intro b w hz hs) | (refine bs hs (k := ?_); intro b w hz hs) | refine XS.nil ?_ | refine then_of ?_ | refine xc_seq ?_ | refine xc_block ?_ | refine block_normal ?_ | refine xc_ret ?_ | refine then_ret ?_ | refine block_ret ?_ | refine xc_skip ?_ | refine xc_exit ?_ | refine then_exit ?_ | refine loopS_exit ?_ | refine loopS_ret ?_ | refine cutB_ret ?_ | refine cutN_ret ?_ | refine cutN_exit ?_ | refine block_exit ?_ | (refine block_other ?_ ?_; exact rfl) | (refine xc_true ?_ ?_; exact rfl) | (refine xc_false ?_ ?_; exact rfl) | ((with_reducible apply xs_guard); exact rfl; exact rfl; intro c hc; (fail_if_success (have : true = c := hc)); (fail_if_success (have : false = c := hc)); cases c) | (refine xc_if rfl (fun hc => ?_) (fun hc => ?_)) | (refine xc_cond rfl (fun hc => ?_) (fun hc => ?_)))
        have hb6 := hs.get At.head
        have hP1 := hP.only (hs.only0 rfl)
        clear hs hP
        have hs := (St.nil _).track hb6 (by simp)
        refine xc_region ?_ ?_; exact rfl
        refine vs (k := ?_)
        refine vs (k := ?_)
        refine vs (k := ?_)
        refine vs (k := ?_)
        refine XS.nil ?_
        refine then_of ?_
        refine xc_cutN (fun (s : Nat × List Nat × Option (Nat × List Int × List Nat × Value)) => [(1, .int .u8 c), (4, .bool false), (19, .slice (some ⟨b, off, none⟩) acts.length cap), (20, .int .i64 (acts.length : Nat)), (5, .pointer (some ⟨s.1, 0, none⟩)), (6, sl1), (7, oldS s.2.2), (8, oldP s.2.2), (10, .pointer (some ⟨b6, 0, none⟩)), (21, .int .i64 (i : Nat))]) (fun s w => Plays w0 s.1 xs s.2.1 sl1 s.2.2 w ∧ w.heap[b6]? = some (.cells #[.bool out, .int .i64 x] 53 (0, 0))) ?_ ?_
        · repeat' (first | refine vs (k := ?_) | refine ps (k := ?_) | (refine st hs (k := ?_); intro w hs) | (refine stA hs (k := ?_); intro w hs) | (refine al hs (k := ?_); intro b w hz hs) | (refine bx hs (k := ?_); intro b w hz hs) | (refine bs hs (k := ?_); intro b w hz hs) | refine XS.nil ?_ | refine then_of ?_ | refine xc_seq ?_ | (refine xc_region ?_ ?_; exact rfl) | refine xc_block ?_ | refine block_normal ?_ | refine xc_ret ?_ | refine then_ret ?_ | refine block_ret ?_ | refine xc_skip ?_ | refine xc_exit ?_ | refine then_exit ?_ | refine loopS_exit ?_ | refine loopS_ret ?_ | refine cutB_ret ?_ | refine cutN_ret ?_ | refine cutN_exit ?_ | refine block_exit ?_ | (refine block_other ?_ ?_; exact rfl) | (refine xc_true ?_ ?_; exact rfl) | (refine xc_false ?_ ?_; exact rfl) | ((with_reducible apply xs_guard); exact rfl; exact rfl; intro c hc; (fail_if_success (have : true = c := hc)); (fail_if_success (have : false = c := hc)); cases c) | (refine xc_if rfl (fun hc => ?_) (fun hc => ?_)) | (refine xc_cond rfl (fun hc => ?_) (fun hc => ?_)))
          · have ho := hs.onlyF [] (by simp [hb6]) (by simp [D0])
            (with_reducible apply xs_call); exact rfl; exact rfl; exact setClone_ret tb1 xs F _ (hP1.s.only ho)
            rintro v w3 ⟨⟨tb', F', rfl, k1, k2⟩, ho2⟩
            have hP2 := (hP1.only ho).only ho2
            have hP3 := hP1.only ho
            have hb7 := ho2.block (ho.block hb6 (by simp)) (by simp)
            clear hs
            have hs := (St.nil w3).track hb7 (by simp)
            repeat' (first | refine vs (k := ?_) | refine ps (k := ?_) | (refine st hs (k := ?_); intro w hs) | (refine stA hs (k := ?_); intro w hs) | (refine al hs (k := ?_); intro b w hz hs) | (refine bx hs (k := ?_); intro b w hz hs) | (refine bs hs (k := ?_); intro b w hz hs) | refine XS.nil ?_ | refine then_of ?_ | refine xc_seq ?_ | (refine xc_region ?_ ?_; exact rfl) | refine xc_block ?_ | refine block_normal ?_ | refine xc_ret ?_ | refine then_ret ?_ | refine block_ret ?_ | refine xc_skip ?_ | refine xc_exit ?_ | refine then_exit ?_ | refine loopS_exit ?_ | refine loopS_ret ?_ | refine cutB_ret ?_ | refine cutN_ret ?_ | refine cutN_exit ?_ | refine block_exit ?_ | (refine block_other ?_ ?_; exact rfl) | (refine xc_true ?_ ?_; exact rfl) | (refine xc_false ?_ ?_; exact rfl) | ((with_reducible apply xs_guard); exact rfl; exact rfl; intro c hc; (fail_if_success (have : true = c := hc)); (fail_if_success (have : false = c := hc)); cases c) | (refine xc_if rfl (fun hc => ?_) (fun hc => ?_)) | (refine xc_cond rfl (fun hc => ?_) (fun hc => ?_)))
            have ho3 := hs.onlyF [] (by simp [hb7]) (by simp [D0])
            refine cutN_normal (tb', F', some (tb1, xs, F, sl1)) (by (repeat (first | exact agree_nil | (apply agree_cons; exact rfl)))) ⟨Plays.only ⟨k1, hP2.q, fun k hk => Nat.le_trans hP3.o.size (k2 k hk), hP2.o, hP2.s, hP2.q, fun k hk hm => ?_, by omega⟩ ho3, hs.get At.head⟩
            have := hP3.s.lt k hk
            have := k2 k hm
            omega
          · exact cutN_normal (tb1, F, old) (by (repeat (first | exact agree_nil | (apply agree_cons; exact rfl)))) ⟨hP1.only (hs.onlyF [] (by simp [hb6]) (by simp [D0])), hs.get At.head⟩
        clear hs hb6 hP1
        rintro ⟨tb2, F2, old2⟩ env w4 ⟨hP, hb6⟩
        dsimp only at hP ⊢
        cases out
        · have hs := (St.nil w4).track hb6 (by simp)
          repeat' (first | refine vs (k := ?_) | refine ps (k := ?_) | (refine st hs (k := ?_); intro w hs) | (refine stA hs (k := ?_); intro w hs) | (refine al hs (k := ?_); intro b w hz hs) | (refine bx hs (k := ?_); intro b w hz hs) | (refine bs hs (k := ?_); intro b w hz hs) | refine XS.nil ?_ | refine then_of ?_ | refine xc_seq ?_ | (refine xc_region ?_ ?_; exact rfl) | refine xc_block ?_ | refine block_normal ?_ | refine xc_ret ?_ | refine then_ret ?_ | refine block_ret ?_ | refine xc_skip ?_ | refine xc_exit ?_ | refine then_exit ?_ | refine loopS_exit ?_ | refine loopS_ret ?_ | refine cutB_ret ?_ | refine cutN_ret ?_ | refine cutN_exit ?_ | refine block_exit ?_ | (refine block_other ?_ ?_; exact rfl) | (refine xc_true ?_ ?_; exact rfl) | (refine xc_false ?_ ?_; exact rfl) | ((with_reducible apply xs_guard); exact rfl; exact rfl; intro c hc; (fail_if_success (have : true = c := hc)); (fail_if_success (have : false = c := hc)); cases c) | (refine xc_if rfl (fun hc => ?_) (fun hc => ?_)) | (refine xc_cond rfl (fun hc => ?_) (fun hc => ?_)))
          have ho3 := hs.onlyF [] (by simp [hb6]) (by simp [D0])
          (with_reducible apply xs_call); exact rfl; exact rfl; exact setInsert_ret tb2 xs F2 x _ (hP.s.only ho3) (by omega)
          rintro v w5 ⟨rfl, F3, h3, s3, o3⟩
          have hP3 := hP.only ho3
          have hb7 := o3.block (ho3.block hb6 (by simp)) (fun hm => hP3.act b6 hm _ _ (ho3.block hb6 (by simp)))
          have hA3 := hP3.q.keepI o3 hP3.s.noInt
          have hO3 : OldOk w5 old2 F3 := hP3.old.next o3 hP3.s.noInt s3
          have n3 := hP3.n.step hP3.o s3
          have o5 := hP3.o.news hP3.n o3
          have hl3 : (insS x xs).length ≤ i + 1 := by have := insS_len x xs; omega
          clear hs
          have hs := (St.nil w5).track hb7 (by simp)
          repeat' (first | refine vs (k := ?_) | refine ps (k := ?_) | (refine st hs (k := ?_); intro w hs) | (refine stA hs (k := ?_); intro w hs) | (refine al hs (k := ?_); intro b w hz hs) | (refine bx hs (k := ?_); intro b w hz hs) | (refine bs hs (k := ?_); intro b w hz hs) | refine XS.nil ?_ | refine then_of ?_ | refine xc_seq ?_ | (refine xc_region ?_ ?_; exact rfl) | refine xc_block ?_ | refine block_normal ?_ | refine xc_ret ?_ | refine then_ret ?_ | refine block_ret ?_ | refine xc_skip ?_ | refine xc_exit ?_ | refine then_exit ?_ | refine loopS_exit ?_ | refine loopS_ret ?_ | refine cutB_ret ?_ | refine cutN_ret ?_ | refine cutN_exit ?_ | refine block_exit ?_ | (refine block_other ?_ ?_; exact rfl) | (refine xc_true ?_ ?_; exact rfl) | (refine xc_false ?_ ?_; exact rfl) | ((with_reducible apply xs_guard); exact rfl; exact rfl; intro c hc; (fail_if_success (have : true = c := hc)); (fail_if_success (have : false = c := hc)); cases c) | (refine xc_if rfl (fun hc => ?_) (fun hc => ?_)) | (refine xc_cond rfl (fun hc => ?_) (fun hc => ?_)))
          have ho6 := hs.onlyF [] (by simp [hb7]) (by simp [D0])
          (with_reducible apply xs_call); exact rfl; exact rfl; exact refInsert_ret _ xs x (by omega) _ (hA3.only ho6)
          rintro v w6 ⟨⟨sl2, rfl, hq2⟩, ho7⟩
          have ho8 := ho6.step ho7 (by simp)
          have hb8 := ho8.block hb7 (by simp)
          have hP4 : Plays w0 tb2 (insS x xs) F3 sl2 old2 w6 := ⟨h3.only ho8, hq2, n3, o5.step ho8 (by simp), hO3.only ho8⟩
          generalize hok : (!decide (x ∈ xs)) = ok
          generalize insS x xs = ys at *
          clear hs
          have hs := (St.nil w6).track hb8 (by simp)
          repeat' (first | refine vs (k := ?_) | refine ps (k := ?_) | (refine st hs (k := ?_); intro w hs) | (refine stA hs (k := ?_); intro w hs) | (refine al hs (k := ?_); intro b w hz hs) | (refine bx hs (k := ?_); intro b w hz hs) | (refine bs hs (k := ?_); intro b w hz hs) | refine XS.nil ?_ | refine then_of ?_ | refine xc_seq ?_ | refine xc_block ?_ | refine block_normal ?_ | refine xc_ret ?_ | refine then_ret ?_ | refine block_ret ?_ | refine xc_skip ?_ | refine xc_exit ?_ | refine then_exit ?_ | refine loopS_exit ?_ | refine loopS_ret ?_ | refine cutB_ret ?_ | refine cutN_ret ?_ | refine cutN_exit ?_ | refine block_exit ?_ | (refine block_other ?_ ?_; exact rfl) | (refine xc_true ?_ ?_; exact rfl) | (refine xc_false ?_ ?_; exact rfl) | ((with_reducible apply xs_guard); exact rfl; exact rfl; intro c hc; (fail_if_success (have : true = c := hc)); (fail_if_success (have : false = c := hc)); cases c) | (refine xc_if rfl (fun hc => ?_) (fun hc => ?_)) | (refine xc_cond rfl (fun hc => ?_) (fun hc => ?_)))
          refine xc_region ?_ ?_; exact rfl
          refine vs (k := ?_)
          refine vs (k := ?_)
          refine vs (k := ?_)
          refine xs_set 60 (v := .bool false) (congrArg Value.bool (bne_self_eq_false ok)) ?_
          repeat' (first | refine vs (k := ?_) | refine ps (k := ?_) | (refine st hs (k := ?_); intro w hs) | (refine stA hs (k := ?_); intro w hs) | (refine al hs (k := ?_); intro b w hz hs) | (refine bx hs (k := ?_); intro b w hz hs) | (refine bs hs (k := ?_); intro b w hz hs) | refine XS.nil ?_ | refine then_of ?_ | refine xc_seq ?_ | (refine xc_region ?_ ?_; exact rfl) | refine xc_block ?_ | refine block_normal ?_ | refine xc_ret ?_ | refine then_ret ?_ | refine block_ret ?_ | refine xc_skip ?_ | refine xc_exit ?_ | refine then_exit ?_ | refine loopS_exit ?_ | refine loopS_ret ?_ | refine cutB_ret ?_ | refine cutN_ret ?_ | refine cutN_exit ?_ | refine block_exit ?_ | (refine block_other ?_ ?_; exact rfl) | (refine xc_true ?_ ?_; exact rfl) | (refine xc_false ?_ ?_; exact rfl) | ((with_reducible apply xs_guard); exact rfl; exact rfl; intro c hc; (fail_if_success (have : true = c := hc)); (fail_if_success (have : false = c := hc)); cases c) | (refine xc_if rfl (fun hc => ?_) (fun hc => ?_)) | (refine xc_cond rfl (fun hc => ?_) (fun hc => ?_)))
          have ho9 := hs.onlyF [] (by simp [hb8]) (by simp [D0])
          (with_reducible apply xs_call); exact rfl; exact rfl; exact told6_ret tb2 ys F3 _ x (by omega) _ (hP4.s.only ho9) (hP4.q.only ho9)
          rintro v w7 ⟨rfl, ho10⟩
          have hP5 := (hP4.only ho9).only ho10
          clear hs
          have hs := St.nil w7
          repeat' (first | refine vs (k := ?_) | refine ps (k := ?_) | (refine st hs (k := ?_); intro w hs) | (refine stA hs (k := ?_); intro w hs) | (refine al hs (k := ?_); intro b w hz hs) | (refine bx hs (k := ?_); intro b w hz hs) | (refine bs hs (k := ?_); intro b w hz hs) | refine XS.nil ?_ | refine then_of ?_ | refine xc_seq ?_ | (refine xc_region ?_ ?_; exact rfl) | refine xc_block ?_ | refine block_normal ?_ | refine xc_ret ?_ | refine then_ret ?_ | refine block_ret ?_ | refine xc_skip ?_ | refine xc_exit ?_ | refine then_exit ?_ | refine loopS_exit ?_ | refine loopS_ret ?_ | refine cutB_ret ?_ | refine cutN_ret ?_ | refine cutN_exit ?_ | refine block_exit ?_ | (refine block_other ?_ ?_; exact rfl) | (refine xc_true ?_ ?_; exact rfl) | (refine xc_false ?_ ?_; exact rfl) | ((with_reducible apply xs_guard); exact rfl; exact rfl; intro c hc; (fail_if_success (have : true = c := hc)); (fail_if_success (have : false = c := hc)); cases c) | (refine xc_if rfl (fun hc => ?_) (fun hc => ?_)) | (refine xc_cond rfl (fun hc => ?_) (fun hc => ?_)))
          exact loopS_next (i + 1, tb2, ys, F3, sl2, old2) (by dsimp only; omega) (by (repeat (first | exact agree_nil | (apply agree_cons; first | exact rfl | exact congrArg (Value.int .i64) ei)))) ⟨by dsimp only; omega, hl3, hP5.only (hs.only0 rfl)⟩
        · have hs := (St.nil w4).track hb6 (by simp)
          repeat' (first | refine vs (k := ?_) | refine ps (k := ?_) | (refine st hs (k := ?_); intro w hs) | (refine stA hs (k := ?_); intro w hs) | (refine al hs (k := ?_); intro b w hz hs) | (refine bx hs (k := ?_); intro b w hz hs) | (refine bs hs (k := ?_); intro b w hz hs) | refine XS.nil ?_ | refine then_of ?_ | refine xc_seq ?_ | (refine xc_region ?_ ?_; exact rfl) | refine xc_block ?_ | refine block_normal ?_ | refine xc_ret ?_ | refine then_ret ?_ | refine block_ret ?_ | refine xc_skip ?_ | refine xc_exit ?_ | refine then_exit ?_ | refine loopS_exit ?_ | refine loopS_ret ?_ | refine cutB_ret ?_ | refine cutN_ret ?_ | refine cutN_exit ?_ | refine block_exit ?_ | (refine block_other ?_ ?_; exact rfl) | (refine xc_true ?_ ?_; exact rfl) | (refine xc_false ?_ ?_; exact rfl) | ((with_reducible apply xs_guard); exact rfl; exact rfl; intro c hc; (fail_if_success (have : true = c := hc)); (fail_if_success (have : false = c := hc)); cases c) | (refine xc_if rfl (fun hc => ?_) (fun hc => ?_)) | (refine xc_cond rfl (fun hc => ?_) (fun hc => ?_)))
          have ho3 := hs.onlyF [] (by simp [hb6]) (by simp [D0])
          (with_reducible apply xs_call); exact rfl; exact rfl; exact setDelete_ret tb2 xs F2 x _ (hP.s.only ho3) (by omega)
          rintro v w5 ⟨rfl, F3, h3, s3, o3⟩
          have hP3 := hP.only ho3
          have hb7 := o3.block (ho3.block hb6 (by simp)) (fun hm => hP3.act b6 hm _ _ (ho3.block hb6 (by simp)))
          have hA3 := hP3.q.keepI o3 hP3.s.noInt
          have hO3 : OldOk w5 old2 F3 := hP3.old.next o3 hP3.s.noInt s3
          have n3 := hP3.n.step hP3.o s3
          have o5 := hP3.o.news hP3.n o3
          have hl3 : (RB.sans x xs).length ≤ i + 1 := by have := sans_le x xs; omega
          clear hs
          have hs := (St.nil w5).track hb7 (by simp)
          repeat' (first | refine vs (k := ?_) | refine ps (k := ?_) | (refine st hs (k := ?_); intro w hs) | (refine stA hs (k := ?_); intro w hs) | (refine al hs (k := ?_); intro b w hz hs) | (refine bx hs (k := ?_); intro b w hz hs) | (refine bs hs (k := ?_); intro b w hz hs) | refine XS.nil ?_ | refine then_of ?_ | refine xc_seq ?_ | (refine xc_region ?_ ?_; exact rfl) | refine xc_block ?_ | refine block_normal ?_ | refine xc_ret ?_ | refine then_ret ?_ | refine block_ret ?_ | refine xc_skip ?_ | refine xc_exit ?_ | refine then_exit ?_ | refine loopS_exit ?_ | refine loopS_ret ?_ | refine cutB_ret ?_ | refine cutN_ret ?_ | refine cutN_exit ?_ | refine block_exit ?_ | (refine block_other ?_ ?_; exact rfl) | (refine xc_true ?_ ?_; exact rfl) | (refine xc_false ?_ ?_; exact rfl) | ((with_reducible apply xs_guard); exact rfl; exact rfl; intro c hc; (fail_if_success (have : true = c := hc)); (fail_if_success (have : false = c := hc)); cases c) | (refine xc_if rfl (fun hc => ?_) (fun hc => ?_)) | (refine xc_cond rfl (fun hc => ?_) (fun hc => ?_)))
          have ho6 := hs.onlyF [] (by simp [hb7]) (by simp [D0])
          (with_reducible apply xs_call); exact rfl; exact rfl; exact refDelete_ret _ xs x (by omega) _ (hA3.only ho6)
          rintro v w6 ⟨⟨sl2, rfl, hq2⟩, ho7⟩
          have ho8 := ho6.step ho7 (by simp)
          have hb8 := ho8.block hb7 (by simp)
          have hP4 : Plays w0 tb2 (RB.sans x xs) F3 sl2 old2 w6 := ⟨h3.only ho8, hq2, n3, o5.step ho8 (by simp), hO3.only ho8⟩
          generalize hok : decide (x ∈ xs) = ok
          generalize RB.sans x xs = ys at *
          clear hs
          have hs := (St.nil w6).track hb8 (by simp)
          repeat' (first | refine vs (k := ?_) | refine ps (k := ?_) | (refine st hs (k := ?_); intro w hs) | (refine stA hs (k := ?_); intro w hs) | (refine al hs (k := ?_); intro b w hz hs) | (refine bx hs (k := ?_); intro b w hz hs) | (refine bs hs (k := ?_); intro b w hz hs) | refine XS.nil ?_ | refine then_of ?_ | refine xc_seq ?_ | refine xc_block ?_ | refine block_normal ?_ | refine xc_ret ?_ | refine then_ret ?_ | refine block_ret ?_ | refine xc_skip ?_ | refine xc_exit ?_ | refine then_exit ?_ | refine loopS_exit ?_ | refine loopS_ret ?_ | refine cutB_ret ?_ | refine cutN_ret ?_ | refine cutN_exit ?_ | refine block_exit ?_ | (refine block_other ?_ ?_; exact rfl) | (refine xc_true ?_ ?_; exact rfl) | (refine xc_false ?_ ?_; exact rfl) | ((with_reducible apply xs_guard); exact rfl; exact rfl; intro c hc; (fail_if_success (have : true = c := hc)); (fail_if_success (have : false = c := hc)); cases c) | (refine xc_if rfl (fun hc => ?_) (fun hc => ?_)) | (refine xc_cond rfl (fun hc => ?_) (fun hc => ?_)))
          refine xc_region ?_ ?_; exact rfl
          refine vs (k := ?_)
          refine vs (k := ?_)
          refine vs (k := ?_)
          refine xs_set 60 (v := .bool false) (congrArg Value.bool (bne_self_eq_false ok)) ?_
          repeat' (first | refine vs (k := ?_) | refine ps (k := ?_) | (refine st hs (k := ?_); intro w hs) | (refine stA hs (k := ?_); intro w hs) | (refine al hs (k := ?_); intro b w hz hs) | (refine bx hs (k := ?_); intro b w hz hs) | (refine bs hs (k := ?_); intro b w hz hs) | refine XS.nil ?_ | refine then_of ?_ | refine xc_seq ?_ | (refine xc_region ?_ ?_; exact rfl) | refine xc_block ?_ | refine block_normal ?_ | refine xc_ret ?_ | refine then_ret ?_ | refine block_ret ?_ | refine xc_skip ?_ | refine xc_exit ?_ | refine then_exit ?_ | refine loopS_exit ?_ | refine loopS_ret ?_ | refine cutB_ret ?_ | refine cutN_ret ?_ | refine cutN_exit ?_ | refine block_exit ?_ | (refine block_other ?_ ?_; exact rfl) | (refine xc_true ?_ ?_; exact rfl) | (refine xc_false ?_ ?_; exact rfl) | ((with_reducible apply xs_guard); exact rfl; exact rfl; intro c hc; (fail_if_success (have : true = c := hc)); (fail_if_success (have : false = c := hc)); cases c) | (refine xc_if rfl (fun hc => ?_) (fun hc => ?_)) | (refine xc_cond rfl (fun hc => ?_) (fun hc => ?_)))
          have ho9 := hs.onlyF [] (by simp [hb8]) (by simp [D0])
          (with_reducible apply xs_call); exact rfl; exact rfl; exact told6_ret tb2 ys F3 _ x (by omega) _ (hP4.s.only ho9) (hP4.q.only ho9)
          rintro v w7 ⟨rfl, ho10⟩
          have hP5 := (hP4.only ho9).only ho10
          clear hs
          have hs := St.nil w7
          repeat' (first | refine vs (k := ?_) | refine ps (k := ?_) | (refine st hs (k := ?_); intro w hs) | (refine stA hs (k := ?_); intro w hs) | (refine al hs (k := ?_); intro b w hz hs) | (refine bx hs (k := ?_); intro b w hz hs) | (refine bs hs (k := ?_); intro b w hz hs) | refine XS.nil ?_ | refine then_of ?_ | refine xc_seq ?_ | (refine xc_region ?_ ?_; exact rfl) | refine xc_block ?_ | refine block_normal ?_ | refine xc_ret ?_ | refine then_ret ?_ | refine block_ret ?_ | refine xc_skip ?_ | refine xc_exit ?_ | refine then_exit ?_ | refine loopS_exit ?_ | refine loopS_ret ?_ | refine cutB_ret ?_ | refine cutN_ret ?_ | refine cutN_exit ?_ | refine block_exit ?_ | (refine block_other ?_ ?_; exact rfl) | (refine xc_true ?_ ?_; exact rfl) | (refine xc_false ?_ ?_; exact rfl) | ((with_reducible apply xs_guard); exact rfl; exact rfl; intro c hc; (fail_if_success (have : true = c := hc)); (fail_if_success (have : false = c := hc)); cases c) | (refine xc_if rfl (fun hc => ?_) (fun hc => ?_)) | (refine xc_cond rfl (fun hc => ?_) (fun hc => ?_)))
          exact loopS_next (i + 1, tb2, ys, F3, sl2, old2) (by dsimp only; omega) (by (repeat (first | exact agree_nil | (apply agree_cons; first | exact rfl | exact congrArg (Value.int .i64) ei)))) ⟨by dsimp only; omega, hl3, hP5.only (hs.only0 rfl)⟩
      · exact cutB_exit old (by (repeat (first | exact agree_nil | (apply agree_cons; exact rfl)))) ⟨hP.o.step (hs.only0 rfl) (by simp), F, hP.old.only (hs.only0 rfl)⟩
    · clear hs hP0
      rintro old env w3 ⟨o3, F3, hO⟩
      have hs := St.nil w3
      cases old with
      | none =>
        repeat' (first | refine vs (k := ?_) | refine ps (k := ?_) | (refine st hs (k := ?_); intro w hs) | (refine stA hs (k := ?_); intro w hs) | (refine al hs (k := ?_); intro b w hz hs) | (refine bx hs (k := ?_); intro b w hz hs) | (refine bs hs (k := ?_); intro b w hz hs) | refine XS.nil ?_ | refine then_of ?_ | refine xc_seq ?_ | (refine xc_region ?_ ?_; exact rfl) | refine xc_block ?_ | refine block_normal ?_ | refine xc_ret ?_ | refine then_ret ?_ | refine block_ret ?_ | refine xc_skip ?_ | refine xc_exit ?_ | refine then_exit ?_ | refine loopS_exit ?_ | refine loopS_ret ?_ | refine cutB_ret ?_ | refine cutN_ret ?_ | refine cutN_exit ?_ | refine block_exit ?_ | (refine block_other ?_ ?_; exact rfl) | (refine xc_true ?_ ?_; exact rfl) | (refine xc_false ?_ ?_; exact rfl) | ((with_reducible apply xs_guard); exact rfl; exact rfl; intro c hc; (fail_if_success (have : true = c := hc)); (fail_if_success (have : false = c := hc)); cases c) | (refine xc_if rfl (fun hc => ?_) (fun hc => ?_)) | (refine xc_cond rfl (fun hc => ?_) (fun hc => ?_)))
        first | refine rt (hq := ?_) | refine rt' (hq := ?_)
        exact ⟨rfl, o3.step (hs.only0 rfl) (by simp)⟩
      | some o =>
        obtain ⟨tb', xs', F', sl'⟩ := o
        obtain ⟨h1, h2, h3, h4⟩ := hO
        repeat' (first | refine vs (k := ?_) | refine ps (k := ?_) | (refine st hs (k := ?_); intro w hs) | (refine stA hs (k := ?_); intro w hs) | (refine al hs (k := ?_); intro b w hz hs) | (refine bx hs (k := ?_); intro b w hz hs) | (refine bs hs (k := ?_); intro b w hz hs) | refine XS.nil ?_ | refine then_of ?_ | refine xc_seq ?_ | (refine xc_region ?_ ?_; exact rfl) | refine xc_block ?_ | refine block_normal ?_ | refine xc_ret ?_ | refine then_ret ?_ | refine block_ret ?_ | refine xc_skip ?_ | refine xc_exit ?_ | refine then_exit ?_ | refine loopS_exit ?_ | refine loopS_ret ?_ | refine cutB_ret ?_ | refine cutN_ret ?_ | refine cutN_exit ?_ | refine block_exit ?_ | (refine block_other ?_ ?_; exact rfl) | (refine xc_true ?_ ?_; exact rfl) | (refine xc_false ?_ ?_; exact rfl) | ((with_reducible apply xs_guard); exact rfl; exact rfl; intro c hc; (fail_if_success (have : true = c := hc)); (fail_if_success (have : false = c := hc)); cases c) | (refine xc_if rfl (fun hc => ?_) (fun hc => ?_)) | (refine xc_cond rfl (fun hc => ?_) (fun hc => ?_)))
        (with_reducible apply xs_call); exact rfl; exact rfl; exact told6_ret tb' xs' F' _ 0 (by omega) _ (h1.only (hs.only0 rfl)) (h2.only (hs.only0 rfl))
        rintro v w7 ⟨rfl, ho10⟩; replace hs := hs.call0 ho10
        repeat' (first | refine vs (k := ?_) | refine ps (k := ?_) | (refine st hs (k := ?_); intro w hs) | (refine stA hs (k := ?_); intro w hs) | (refine al hs (k := ?_); intro b w hz hs) | (refine bx hs (k := ?_); intro b w hz hs) | (refine bs hs (k := ?_); intro b w hz hs) | refine XS.nil ?_ | refine then_of ?_ | refine xc_seq ?_ | (refine xc_region ?_ ?_; exact rfl) | refine xc_block ?_ | refine block_normal ?_ | refine xc_ret ?_ | refine then_ret ?_ | refine block_ret ?_ | refine xc_skip ?_ | refine xc_exit ?_ | refine then_exit ?_ | refine loopS_exit ?_ | refine loopS_ret ?_ | refine cutB_ret ?_ | refine cutN_ret ?_ | refine cutN_exit ?_ | refine block_exit ?_ | (refine block_other ?_ ?_; exact rfl) | (refine xc_true ?_ ?_; exact rfl) | (refine xc_false ?_ ?_; exact rfl) | ((with_reducible apply xs_guard); exact rfl; exact rfl; intro c hc; (fail_if_success (have : true = c := hc)); (fail_if_success (have : false = c := hc)); cases c) | (refine xc_if rfl (fun hc => ?_) (fun hc => ?_)) | (refine xc_cond rfl (fun hc => ?_) (fun hc => ?_)))
        first | refine rt (hq := ?_) | refine rt' (hq := ?_)
        exact ⟨rfl, o3.step (hs.only0 rfl) (by simp)⟩
end Go.Proofs.YtjooegonmdmajaaX
