/- rbtree: Fold of a beginning. -/
import Derived.Test.YtjooegonmdmajaaRbF
set_option linter.unusedVariables false
set_option linter.unusedSimpArgs false
set_option maxRecDepth 100000
namespace Go.Proofs.YtjooegonmdmajaaX
open Go Go.RowKit
attribute [local irreducible] XS XC XA thenE blockE retE loopE loopS cutB cutN doneE SE
/-- What Fold holds on its way. -/
structure FoldAt (w0 : World) (tb b2 b6 b7 : Nat) (acc : List Int) (w : World) : Prop where
  o : Only [] w0 w
  h2 : w.heap[b2]? = some (ptrO tb)
  h7 : w.heap[b7]? = some (boolO (decide (acc ≠ [])))
  h6 : ∃ va, w.heap[b6]? = some (slO va) ∧ DAt w va acc
theorem FoldAt.only {w0 w w' : World} {tb b2 b6 b7 : Nat} {acc : List Int} (h : FoldAt w0 tb b2 b6 b7 acc w) (ho : Only [] w w') : FoldAt w0 tb b2 b6 b7 acc w' := by
  obtain ⟨o, h2, h7, va, h6, hA⟩ := h
  exact ⟨o.step ho (by simp), ho.block h2 (by simp), ho.block h7 (by simp), va, ho.block h6 (by simp), hA.only ho⟩
/-- Behind the closure's call. -/
theorem FoldAt.add {w0 w w' : World} {tb b2 b6 b7 : Nat} {acc m : List Int} {va' : Value} (h : FoldAt w0 tb b2 b6 b7 acc w) (g6 : w0.heap.size ≤ b6) (g7 : w0.heap.size ≤ b7) (hm : m ≠ [])
    (k7 : w'.heap[b7]? = some (boolO true)) (k6 : w'.heap[b6]? = some (slO va')) (kA : DAt w' va' (acc ++ m)) (ho : Only [b7, b6] w w') : FoldAt w0 tb b2 b6 b7 (acc ++ m) w' := by
  obtain ⟨o, h2, h7, va, h6, hA⟩ := h
  refine ⟨o.step ho (fun k hk => ?_), ho.block h2 (fun hm => ?_), ?_, va', k6, kA⟩
  · simp only [List.mem_cons, List.not_mem_nil, or_false] at hk
    rcases hk with rfl | rfl
    · exact .inr g7
    · exact .inr g6
  · simp only [List.mem_cons, List.not_mem_nil, or_false] at hm
    rcases hm with rfl | rfl
    · rw [h2] at h7; cases h7
    · rw [h2] at h6; cases h6
  · rw [k7, show decide (acc ++ m ≠ []) = true by simp [hm]]
theorem no_self {w : World} {x : Int} {c : Bool} {b : Nat} {av : Value} {pr : Option Addr} {fl : List Nat} {a1 : RB Int} (hlb : w.heap[b]? = some (nodeO x av (some ⟨b, 0, none⟩) pr c)) (hll : TreeAt w a1 (some ⟨b, 0, none⟩) fl) : False := by
  revert fl
  induction a1 with
  | nil => rintro fl ⟨h, _⟩; cases h
  | node a y d e ih _ =>
    rintro fl ⟨b', av', pl', pr', fl', fr', h1, h2, h3, h4, h5, h6⟩
    cases h1
    rw [hlb] at h3
    cases h3
    exact ih h5
set_option maxHeartbeats 2000000 in
theorem fold_ret (tb : Nat) (t : RB Int) (F : List Nat) (w0 : World) (h : Obj6 w0 tb t F) (fid : Nat) (caps : List Value) (q : Int → Bool) (Inv : World → Prop) (hI : Inv w0) (hst : ∀ w, Only [] w0 w → Inv w)
    (hq : ∀ (y : Int) (w : World), Inv w → Ret Try.prog fid (Value.int .i64 y :: caps).toArray w fun v w' => v = .bool (q y) ∧ Only [] w w') (hlen : t.list.length ≤ 1000000) :
    Ret Try.prog 16 #[.pointer (some ⟨tb, 0, none⟩), .func (.func fid) #[] caps.toArray] w0 fun v w' => (∃ va, v = .tuple #[va, .bool (decide (RB.fold q t ≠ []))] ∧ DAt w' va (RB.fold q t)) ∧ Only [] w0 w' := by
  obtain ⟨p, fp, rfl, hT, ht, hnd⟩ := h
  have hs := (St.nil w0).track hT (by simp)
  refine ret_of_xc Try.func16 (by kernel_rfl) rfl Try.ntmps16 rfl rfl rfl ?_
  repeat' (first | refine vs (k := ?_) | refine ps (k := ?_) | (refine st hs (k := ?_); intro w hs) | (refine stA hs (k := ?_); intro w hs) | (refine al hs (k := ?_); intro b w hz hs) | (refine bx hs (k := ?_); intro b w hz hs) | (refine bs hs (k := ?_); intro b w hz hs) | refine XS.nil ?_ | refine then_of ?_ | refine xc_seq ?_ | refine xc_block ?_ | refine block_normal ?_ | refine xc_ret ?_ | refine then_ret ?_ | refine block_ret ?_ | refine xc_skip ?_ | refine xc_exit ?_ | refine then_exit ?_ | refine loopS_exit ?_ | refine loopS_ret ?_ | refine cutB_ret ?_ | refine cutN_ret ?_ | refine cutN_exit ?_ | refine block_exit ?_ | (refine block_other ?_ ?_; exact rfl) | (refine xc_true ?_ ?_; exact rfl) | (refine xc_false ?_ ?_; exact rfl) | ((with_reducible apply xs_guard); exact rfl; exact rfl; intro c hc; (fail_if_success (have : true = c := hc)); (fail_if_success (have : false = c := hc)); cases c) | (refine xc_if rfl (fun hc => ?_) (fun hc => ?_)) | (refine xc_cond rfl (fun hc => ?_) (fun hc => ?_)))
  refine xc_region ?_ ?_; exact rfl
  refine bx hs (k := ?_); intro b2 w hz hs
  repeat' (first | refine vs (k := ?_) | refine ps (k := ?_) | (refine st hs (k := ?_); intro w hs) | (refine stA hs (k := ?_); intro w hs) | (refine al hs (k := ?_); intro b w hz hs) | (refine bx hs (k := ?_); intro b w hz hs) | (refine bs hs (k := ?_); intro b w hz hs) | refine XS.nil ?_ | refine then_of ?_ | refine xc_seq ?_ | refine xc_block ?_ | refine block_normal ?_ | refine xc_ret ?_ | refine then_ret ?_ | refine block_ret ?_ | refine xc_skip ?_ | refine xc_exit ?_ | refine then_exit ?_ | refine loopS_exit ?_ | refine loopS_ret ?_ | refine cutB_ret ?_ | refine cutN_ret ?_ | refine cutN_exit ?_ | refine block_exit ?_ | (refine block_other ?_ ?_; exact rfl) | (refine xc_true ?_ ?_; exact rfl) | (refine xc_false ?_ ?_; exact rfl) | ((with_reducible apply xs_guard); exact rfl; exact rfl; intro c hc; (fail_if_success (have : true = c := hc)); (fail_if_success (have : false = c := hc)); cases c) | (refine xc_if rfl (fun hc => ?_) (fun hc => ?_)) | (refine xc_cond rfl (fun hc => ?_) (fun hc => ?_)))
  refine xc_region ?_ ?_; exact rfl
  refine al hs (k := ?_); intro b6 w hz hs
  repeat' (first | refine vs (k := ?_) | refine ps (k := ?_) | (refine st hs (k := ?_); intro w hs) | (refine stA hs (k := ?_); intro w hs) | (refine al hs (k := ?_); intro b w hz hs) | (refine bx hs (k := ?_); intro b w hz hs) | (refine bs hs (k := ?_); intro b w hz hs) | refine XS.nil ?_ | refine then_of ?_ | refine xc_seq ?_ | refine xc_block ?_ | refine block_normal ?_ | refine xc_ret ?_ | refine then_ret ?_ | refine block_ret ?_ | refine xc_skip ?_ | refine xc_exit ?_ | refine then_exit ?_ | refine loopS_exit ?_ | refine loopS_ret ?_ | refine cutB_ret ?_ | refine cutN_ret ?_ | refine cutN_exit ?_ | refine block_exit ?_ | (refine block_other ?_ ?_; exact rfl) | (refine xc_true ?_ ?_; exact rfl) | (refine xc_false ?_ ?_; exact rfl) | ((with_reducible apply xs_guard); exact rfl; exact rfl; intro c hc; (fail_if_success (have : true = c := hc)); (fail_if_success (have : false = c := hc)); cases c) | (refine xc_if rfl (fun hc => ?_) (fun hc => ?_)) | (refine xc_cond rfl (fun hc => ?_) (fun hc => ?_)))
  refine xc_region ?_ ?_; exact rfl
  refine al hs (k := ?_); intro b7 w hz hs
  repeat' (first | refine vs (k := ?_) | refine ps (k := ?_) | (refine st hs (k := ?_); intro w hs) | (refine stA hs (k := ?_); intro w hs) | (refine al hs (k := ?_); intro b w hz hs) | (refine bx hs (k := ?_); intro b w hz hs) | (refine bs hs (k := ?_); intro b w hz hs) | refine XS.nil ?_ | refine then_of ?_ | refine xc_seq ?_ | (refine xc_region ?_ ?_; exact rfl) | refine xc_block ?_ | refine block_normal ?_ | refine xc_ret ?_ | refine then_ret ?_ | refine block_ret ?_ | refine xc_skip ?_ | refine xc_exit ?_ | refine then_exit ?_ | refine loopS_exit ?_ | refine loopS_ret ?_ | refine cutB_ret ?_ | refine cutN_ret ?_ | refine cutN_exit ?_ | refine block_exit ?_ | (refine block_other ?_ ?_; exact rfl) | (refine xc_true ?_ ?_; exact rfl) | (refine xc_false ?_ ?_; exact rfl) | ((with_reducible apply xs_guard); exact rfl; exact rfl; intro c hc; (fail_if_success (have : true = c := hc)); (fail_if_success (have : false = c := hc)); cases c) | (refine xc_if rfl (fun hc => ?_) (fun hc => ?_)) | (refine xc_cond rfl (fun hc => ?_) (fun hc => ?_)))
  have g2 := hs.new (b2, true) (by simp) rfl
  have g6 := hs.new (b6, true) (by simp) rfl
  have g7 := hs.new (b7, true) (by simp) rfl
  have hF0 : FoldAt w0 tb b2 b6 b7 [] _ := ⟨hs.onlyF [] (by simp [hT]) (by simp [D0]), hs.get (At.tail (At.tail At.head)), hs.get At.head, _, hs.get (At.tail At.head), ⟨none, 0, rfl, fun h => absurd rfl h⟩⟩
  refine xc_cutB (fun _ : Unit => [(6, .pointer (some ⟨b6, 0, none⟩)), (7, .pointer (some ⟨b7, 0, none⟩))]) (fun _ w => FoldAt w0 tb b2 b6 b7 (RB.fold q t) w) ?_ ?_
  · refine xc_loopS (fun (s : RB Int × Option Addr × List Int) => [(1, .func (.func fid) #[] caps.toArray), (2, .pointer (some ⟨b2, 0, none⟩)), (6, .pointer (some ⟨b6, 0, none⟩)), (7, .pointer (some ⟨b7, 0, none⟩)), (8, .func (.func 64) #[] #[.pointer (some ⟨b7, 0, none⟩), .pointer (some ⟨b2, 0, none⟩), .pointer (some ⟨b6, 0, none⟩)]), (9, .pointer s.2.1)])
      (fun s w => FoldAt w0 tb b2 b6 b7 s.2.2 w ∧ RB.fold q t = s.2.2 ++ RB.fold q s.1 ∧ s.2.2.length + s.1.list.length ≤ 1000000 ∧ ∃ fps, TreeAt w0 s.1 s.2.1 fps)
      (fun s => s.1.list.length) (t, p, []) (by (repeat (first | exact agree_nil | (apply agree_cons; exact rfl)))) ⟨hF0, rfl, by simpa using hlen, fp, ht⟩ fun s env w2 ⟨k1, k2, k3, fps, k4⟩ => ?_
    clear hs hF0
    obtain ⟨s, ps, acc⟩ := s
    dsimp only at k1 k2 k3 k4 ⊢
    cases s with
    | nil =>
      obtain ⟨rfl, rfl⟩ := k4
      have hs := St.nil w2
      repeat' (first | refine vs (k := ?_) | refine ps (k := ?_) | (refine st hs (k := ?_); intro w hs) | (refine stA hs (k := ?_); intro w hs) | (refine al hs (k := ?_); intro b w hz hs) | (refine bx hs (k := ?_); intro b w hz hs) | (refine bs hs (k := ?_); intro b w hz hs) | refine XS.nil ?_ | refine then_of ?_ | refine xc_seq ?_ | (refine xc_region ?_ ?_; exact rfl) | refine xc_block ?_ | refine block_normal ?_ | refine xc_ret ?_ | refine then_ret ?_ | refine block_ret ?_ | refine xc_skip ?_ | refine xc_exit ?_ | refine then_exit ?_ | refine loopS_exit ?_ | refine loopS_ret ?_ | refine cutB_ret ?_ | refine cutN_ret ?_ | refine cutN_exit ?_ | refine block_exit ?_ | (refine block_other ?_ ?_; exact rfl) | (refine xc_true ?_ ?_; exact rfl) | (refine xc_false ?_ ?_; exact rfl) | ((with_reducible apply xs_guard); exact rfl; exact rfl; intro c hc; (fail_if_success (have : true = c := hc)); (fail_if_success (have : false = c := hc)); cases c) | (refine xc_if rfl (fun hc => ?_) (fun hc => ?_)) | (refine xc_cond rfl (fun hc => ?_) (fun hc => ?_)))
      exact cutB_exit () (by (repeat (first | exact agree_nil | (apply agree_cons; exact rfl)))) (by rw [k2, show RB.fold q RB.nil = [] from rfl, List.append_nil]; exact k1.only (hs.only0 rfl))
    | node l y r c =>
      obtain ⟨b, av, pl, pr, fl, fr, rfl, rfl, hb, hav, hl, hr⟩ := k4
      have hbw := k1.o.block hb (by simp)
      have hTw := k1.o.block hT (by simp)
      have hbt := head_ne hT hb
      have d1 : b ≠ b2 := blocks_ne hbw k1.h2 (by decide)
      simp only [RB.list, List.length_append, List.length_cons] at k3
      have hs := ((St.nil w2).track k1.h2 (by simp)).track hbw (by simpa using d1)
      repeat' (first | refine vs (k := ?_) | refine ps (k := ?_) | (refine st hs (k := ?_); intro w hs) | (refine stA hs (k := ?_); intro w hs) | (refine al hs (k := ?_); intro b w hz hs) | (refine bx hs (k := ?_); intro b w hz hs) | (refine bs hs (k := ?_); intro b w hz hs) | refine XS.nil ?_ | refine then_of ?_ | refine xc_seq ?_ | (refine xc_region ?_ ?_; exact rfl) | refine xc_block ?_ | refine block_normal ?_ | refine xc_ret ?_ | refine then_ret ?_ | refine block_ret ?_ | refine xc_skip ?_ | refine xc_exit ?_ | refine then_exit ?_ | refine loopS_exit ?_ | refine loopS_ret ?_ | refine cutB_ret ?_ | refine cutN_ret ?_ | refine cutN_exit ?_ | refine block_exit ?_ | (refine block_other ?_ ?_; exact rfl) | (refine xc_true ?_ ?_; exact rfl) | (refine xc_false ?_ ?_; exact rfl) | ((with_reducible apply xs_guard); exact rfl; exact rfl; intro c hc; (fail_if_success (have : true = c := hc)); (fail_if_success (have : false = c := hc)); cases c) | (refine xc_if rfl (fun hc => ?_) (fun hc => ?_)) | (refine xc_cond rfl (fun hc => ?_) (fun hc => ?_)))
      have ho := hs.onlyF [] (by simp [hbw, k1.h2]) (by simp [D0])
      (with_reducible apply xs_call); exact rfl; exact rfl; exact hq y _ (hst _ (k1.o.step ho (by simp)))
      rintro v w' ⟨rfl, ho⟩; replace hs := hs.call0 ho
      cases hqy : q y
      · have e1 : RB.fold q (.node l y r c) = RB.fold q l := by simp [RB.fold, hqy]
        rw [e1] at k2
        repeat' (first | refine vs (k := ?_) | refine ps (k := ?_) | (refine st hs (k := ?_); intro w hs) | (refine stA hs (k := ?_); intro w hs) | (refine al hs (k := ?_); intro b w hz hs) | (refine bx hs (k := ?_); intro b w hz hs) | (refine bs hs (k := ?_); intro b w hz hs) | refine XS.nil ?_ | refine then_of ?_ | refine xc_seq ?_ | (refine xc_region ?_ ?_; exact rfl) | refine xc_block ?_ | refine block_normal ?_ | refine xc_ret ?_ | refine then_ret ?_ | refine block_ret ?_ | refine xc_skip ?_ | refine xc_exit ?_ | refine then_exit ?_ | refine loopS_exit ?_ | refine loopS_ret ?_ | refine cutB_ret ?_ | refine cutN_ret ?_ | refine cutN_exit ?_ | refine block_exit ?_ | (refine block_other ?_ ?_; exact rfl) | (refine xc_true ?_ ?_; exact rfl) | (refine xc_false ?_ ?_; exact rfl) | ((with_reducible apply xs_guard); exact rfl; exact rfl; intro c hc; (fail_if_success (have : true = c := hc)); (fail_if_success (have : false = c := hc)); cases c) | (refine xc_if rfl (fun hc => ?_) (fun hc => ?_)) | (refine xc_cond rfl (fun hc => ?_) (fun hc => ?_)))
        exact loopS_next (l, pl, acc) (by simp only [RB.list, List.length_append, List.length_cons]; omega) (by (repeat (first | exact agree_nil | (apply agree_cons; exact rfl)))) ⟨k1.only (hs.onlyF [] (by simp [hbw, k1.h2]) (by simp [D0])), k2, by dsimp only; omega, fl, hl⟩
      · have e1 : RB.fold q (.node l y r c) = l.list ++ y :: RB.fold q r := by simp [RB.fold, hqy]
        rw [e1] at k2
        have hF1 := k1.only (hs.onlyF [] (by simp [hbw, k1.h2]) (by simp [D0]))
        clear k1 hbw hTw hs ho
        have hN67 : ∀ (w : World) (acc : List Int), FoldAt w0 tb b2 b6 b7 acc w → b ∉ [b7, b6] ∧ tb ∉ [b7, b6] := fun w acc k => by
          have hbw := k.o.block hb (by simp)
          have hTw := k.o.block hT (by simp)
          obtain ⟨_, _, k7, va, k6, _⟩ := k
          have e1 := blocks_ne hbw k7 (by decide)
          have e2 := blocks_ne hbw k6 (by decide)
          have e3 := blocks_ne hTw k7 (by decide)
          have e4 := blocks_ne hTw k6 (by decide)
          simp [e1, e2, e3, e4]
        have hs := St.nil w'
        repeat' (first | refine vs (k := ?_) | refine ps (k := ?_) | (refine st hs (k := ?_); intro w hs) | (refine stA hs (k := ?_); intro w hs) | (refine al hs (k := ?_); intro b w hz hs) | (refine bx hs (k := ?_); intro b w hz hs) | (refine bs hs (k := ?_); intro b w hz hs) | refine XS.nil ?_ | refine then_of ?_ | refine xc_seq ?_ | refine xc_block ?_ | refine block_normal ?_ | refine xc_ret ?_ | refine then_ret ?_ | refine block_ret ?_ | refine xc_skip ?_ | refine xc_exit ?_ | refine then_exit ?_ | refine loopS_exit ?_ | refine loopS_ret ?_ | refine cutB_ret ?_ | refine cutN_ret ?_ | refine cutN_exit ?_ | refine block_exit ?_ | (refine block_other ?_ ?_; exact rfl) | (refine xc_true ?_ ?_; exact rfl) | (refine xc_false ?_ ?_; exact rfl) | ((with_reducible apply xs_guard); exact rfl; exact rfl; intro c hc; (fail_if_success (have : true = c := hc)); (fail_if_success (have : false = c := hc)); cases c) | (refine xc_if rfl (fun hc => ?_) (fun hc => ?_)) | (refine xc_cond rfl (fun hc => ?_) (fun hc => ?_)))
        refine xc_cutN (fun _ : Unit => [(1, .func (.func fid) #[] caps.toArray), (2, .pointer (some ⟨b2, 0, none⟩)), (6, .pointer (some ⟨b6, 0, none⟩)), (7, .pointer (some ⟨b7, 0, none⟩)), (8, .func (.func 64) #[] #[.pointer (some ⟨b7, 0, none⟩), .pointer (some ⟨b2, 0, none⟩), .pointer (some ⟨b6, 0, none⟩)]), (9, .pointer (some ⟨b, 0, none⟩)), (35, .bool (!RB.isNil l))]) (fun _ w => FoldAt w0 tb b2 b6 b7 acc w) ?_ ?_
        · have hbw := hF1.o.block hb (by simp)
          clear hs
          have hs := (St.nil w').track hbw (by simp)
          cases l with
          | nil =>
            obtain ⟨rfl, rfl⟩ := hl
            repeat' (first | refine vs (k := ?_) | refine ps (k := ?_) | (refine st hs (k := ?_); intro w hs) | (refine stA hs (k := ?_); intro w hs) | (refine al hs (k := ?_); intro b w hz hs) | (refine bx hs (k := ?_); intro b w hz hs) | (refine bs hs (k := ?_); intro b w hz hs) | refine XS.nil ?_ | refine then_of ?_ | refine xc_seq ?_ | (refine xc_region ?_ ?_; exact rfl) | refine xc_block ?_ | refine block_normal ?_ | refine xc_ret ?_ | refine then_ret ?_ | refine block_ret ?_ | refine xc_skip ?_ | refine xc_exit ?_ | refine then_exit ?_ | refine loopS_exit ?_ | refine loopS_ret ?_ | refine cutB_ret ?_ | refine cutN_ret ?_ | refine cutN_exit ?_ | refine block_exit ?_ | (refine block_other ?_ ?_; exact rfl) | (refine xc_true ?_ ?_; exact rfl) | (refine xc_false ?_ ?_; exact rfl) | ((with_reducible apply xs_guard); exact rfl; exact rfl; intro c hc; (fail_if_success (have : true = c := hc)); (fail_if_success (have : false = c := hc)); cases c) | (refine xc_if rfl (fun hc => ?_) (fun hc => ?_)) | (refine xc_cond rfl (fun hc => ?_) (fun hc => ?_)))
            exact cutN_normal () (by (repeat (first | exact agree_nil | (apply agree_cons; exact rfl)))) (hF1.only (hs.onlyF [] (by simp [hbw]) (by simp [D0])))
          | node a1 a2 a3 a4 =>
            obtain ⟨_, _, _, _, _, _, rfl, _⟩ := hl
            repeat' (first | refine vs (k := ?_) | refine ps (k := ?_) | (refine st hs (k := ?_); intro w hs) | (refine stA hs (k := ?_); intro w hs) | (refine al hs (k := ?_); intro b w hz hs) | (refine bx hs (k := ?_); intro b w hz hs) | (refine bs hs (k := ?_); intro b w hz hs) | refine XS.nil ?_ | refine then_of ?_ | refine xc_seq ?_ | (refine xc_region ?_ ?_; exact rfl) | refine xc_block ?_ | refine block_normal ?_ | refine xc_ret ?_ | refine then_ret ?_ | refine block_ret ?_ | refine xc_skip ?_ | refine xc_exit ?_ | refine then_exit ?_ | refine loopS_exit ?_ | refine loopS_ret ?_ | refine cutB_ret ?_ | refine cutN_ret ?_ | refine cutN_exit ?_ | refine block_exit ?_ | (refine block_other ?_ ?_; exact rfl) | (refine xc_true ?_ ?_; exact rfl) | (refine xc_false ?_ ?_; exact rfl) | ((with_reducible apply xs_guard); exact rfl; exact rfl; intro c hc; (fail_if_success (have : true = c := hc)); (fail_if_success (have : false = c := hc)); cases c) | (refine xc_if rfl (fun hc => ?_) (fun hc => ?_)) | (refine xc_cond rfl (fun hc => ?_) (fun hc => ?_)))
            exact cutN_normal () (by (repeat (first | exact agree_nil | (apply agree_cons; exact rfl)))) (hF1.only (hs.onlyF [] (by simp [hbw]) (by simp [D0])))
        clear hF1 hs
        rintro _ env w3 hF1
        refine xc_cutN (fun _ : Unit => [(1, .func (.func fid) #[] caps.toArray), (2, .pointer (some ⟨b2, 0, none⟩)), (6, .pointer (some ⟨b6, 0, none⟩)), (7, .pointer (some ⟨b7, 0, none⟩)), (8, .func (.func 64) #[] #[.pointer (some ⟨b7, 0, none⟩), .pointer (some ⟨b2, 0, none⟩), .pointer (some ⟨b6, 0, none⟩)]), (9, .pointer (some ⟨b, 0, none⟩))]) (fun _ w => FoldAt w0 tb b2 b6 b7 (acc ++ l.list) w) ?_ ?_
        · have hbw := hF1.o.block hb (by simp)
          cases l with
          | nil =>
            have hs := St.nil w3
            repeat' (first | refine vs (k := ?_) | refine ps (k := ?_) | (refine st hs (k := ?_); intro w hs) | (refine stA hs (k := ?_); intro w hs) | (refine al hs (k := ?_); intro b w hz hs) | (refine bx hs (k := ?_); intro b w hz hs) | (refine bs hs (k := ?_); intro b w hz hs) | refine XS.nil ?_ | refine then_of ?_ | refine xc_seq ?_ | (refine xc_region ?_ ?_; exact rfl) | refine xc_block ?_ | refine block_normal ?_ | refine xc_ret ?_ | refine then_ret ?_ | refine block_ret ?_ | refine xc_skip ?_ | refine xc_exit ?_ | refine then_exit ?_ | refine loopS_exit ?_ | refine loopS_ret ?_ | refine cutB_ret ?_ | refine cutN_ret ?_ | refine cutN_exit ?_ | refine block_exit ?_ | (refine block_other ?_ ?_; exact rfl) | (refine xc_true ?_ ?_; exact rfl) | (refine xc_false ?_ ?_; exact rfl) | ((with_reducible apply xs_guard); exact rfl; exact rfl; intro c hc; (fail_if_success (have : true = c := hc)); (fail_if_success (have : false = c := hc)); cases c) | (refine xc_if rfl (fun hc => ?_) (fun hc => ?_)) | (refine xc_cond rfl (fun hc => ?_) (fun hc => ?_)))
            exact cutN_normal () (by (repeat (first | exact agree_nil | (apply agree_cons; exact rfl)))) (by rw [show RB.nil.list = ([] : List Int) from rfl, List.append_nil]; exact hF1)
          | node a1 a2 a3 a4 =>
            obtain ⟨lb, lav, lpl, lpr, lfl, lfr, rfl, rfl, hlb, hlav, hll, hlr⟩ := hl
            have hlbw := hF1.o.block hlb (by simp)
            have hlbb : lb ≠ b := fun e => by
              subst e
              rw [hlb] at hb
              cases hb
              exact no_self hlb hll
            have hs := ((St.nil w3).track hbw (by simp)).track hlbw (by simpa using hlbb)
            repeat' (first | refine vs (k := ?_) | refine ps (k := ?_) | (refine st hs (k := ?_); intro w hs) | (refine stA hs (k := ?_); intro w hs) | (refine al hs (k := ?_); intro b w hz hs) | (refine bx hs (k := ?_); intro b w hz hs) | (refine bs hs (k := ?_); intro b w hz hs) | refine XS.nil ?_ | refine then_of ?_ | refine xc_seq ?_ | (refine xc_region ?_ ?_; exact rfl) | refine xc_block ?_ | refine block_normal ?_ | refine xc_ret ?_ | refine then_ret ?_ | refine block_ret ?_ | refine xc_skip ?_ | refine xc_exit ?_ | refine then_exit ?_ | refine loopS_exit ?_ | refine loopS_ret ?_ | refine cutB_ret ?_ | refine cutN_ret ?_ | refine cutN_exit ?_ | refine block_exit ?_ | (refine block_other ?_ ?_; exact rfl) | (refine xc_true ?_ ?_; exact rfl) | (refine xc_false ?_ ?_; exact rfl) | ((with_reducible apply xs_guard); exact rfl; exact rfl; intro c hc; (fail_if_success (have : true = c := hc)); (fail_if_success (have : false = c := hc)); cases c) | (refine xc_if rfl (fun hc => ?_) (fun hc => ?_)) | (refine xc_cond rfl (fun hc => ?_) (fun hc => ?_)))
            have ho := hs.onlyF [] (by simp [hbw, hlbw]) (by simp [D0])
            have hF2 := hF1.only ho
            obtain ⟨o, q2, q7, va, q6, qA⟩ := id hF2
            simp only [RB.list, List.length_append, List.length_cons] at k3
            (with_reducible apply xs_call); exact rfl; exact rfl; exact add6_ret b7 b2 b6 tb p _ acc (a1.list ++ a2 :: a3.list) va lav _ q7 q2 q6 (o.block hT (by simp)) qA (hlav.only o) (by simp) (by simp only [List.length_append, List.length_cons]; omega)
            rintro v w4 ⟨va', m7, m6, mA, mo⟩
            have hs := St.nil w4
            repeat' (first | refine vs (k := ?_) | refine ps (k := ?_) | (refine st hs (k := ?_); intro w hs) | (refine stA hs (k := ?_); intro w hs) | (refine al hs (k := ?_); intro b w hz hs) | (refine bx hs (k := ?_); intro b w hz hs) | (refine bs hs (k := ?_); intro b w hz hs) | refine XS.nil ?_ | refine then_of ?_ | refine xc_seq ?_ | (refine xc_region ?_ ?_; exact rfl) | refine xc_block ?_ | refine block_normal ?_ | refine xc_ret ?_ | refine then_ret ?_ | refine block_ret ?_ | refine xc_skip ?_ | refine xc_exit ?_ | refine then_exit ?_ | refine loopS_exit ?_ | refine loopS_ret ?_ | refine cutB_ret ?_ | refine cutN_ret ?_ | refine cutN_exit ?_ | refine block_exit ?_ | (refine block_other ?_ ?_; exact rfl) | (refine xc_true ?_ ?_; exact rfl) | (refine xc_false ?_ ?_; exact rfl) | ((with_reducible apply xs_guard); exact rfl; exact rfl; intro c hc; (fail_if_success (have : true = c := hc)); (fail_if_success (have : false = c := hc)); cases c) | (refine xc_if rfl (fun hc => ?_) (fun hc => ?_)) | (refine xc_cond rfl (fun hc => ?_) (fun hc => ?_)))
            exact cutN_normal () (by (repeat (first | exact agree_nil | (apply agree_cons; exact rfl)))) (hF2.add g6 g7 (by simp [RB.list]) m7 m6 mA mo)
        clear hF1
        rintro _ env w4 hF1
        have hbw := hF1.o.block hb (by simp)
        have hTw := hF1.o.block hT (by simp)
        have d2 : b2 ≠ tb := blocks_ne hF1.h2 hTw (by decide)
        have hs := (((St.nil w4).track hTw (by simp)).track hF1.h2 (by simpa using d2)).track hbw (by simp [d1, hbt])
        repeat' (first | refine vs (k := ?_) | refine ps (k := ?_) | (refine st hs (k := ?_); intro w hs) | (refine stA hs (k := ?_); intro w hs) | (refine al hs (k := ?_); intro b w hz hs) | (refine bx hs (k := ?_); intro b w hz hs) | (refine bs hs (k := ?_); intro b w hz hs) | refine XS.nil ?_ | refine then_of ?_ | refine xc_seq ?_ | (refine xc_region ?_ ?_; exact rfl) | refine xc_block ?_ | refine block_normal ?_ | refine xc_ret ?_ | refine then_ret ?_ | refine block_ret ?_ | refine xc_skip ?_ | refine xc_exit ?_ | refine then_exit ?_ | refine loopS_exit ?_ | refine loopS_ret ?_ | refine cutB_ret ?_ | refine cutN_ret ?_ | refine cutN_exit ?_ | refine block_exit ?_ | (refine block_other ?_ ?_; exact rfl) | (refine xc_true ?_ ?_; exact rfl) | (refine xc_false ?_ ?_; exact rfl) | ((with_reducible apply xs_guard); exact rfl; exact rfl; intro c hc; (fail_if_success (have : true = c := hc)); (fail_if_success (have : false = c := hc)); cases c) | (refine xc_if rfl (fun hc => ?_) (fun hc => ?_)) | (refine xc_cond rfl (fun hc => ?_) (fun hc => ?_)))
        refine dr [] hs (k := ?_); intro hX w hs
        refine tk 0 hX (k := ?_)
        refine tk 1 hX (k := ?_)
        refine tk 2 hX (k := ?_)
        refine tk 3 hX (k := ?_)
        refine tk 4 hX (k := ?_)
        refine tk 5 hX (k := ?_)
        refine tk 6 hX (k := ?_)
        refine tk 7 hX (k := ?_)
        refine tk 8 hX (k := ?_)
        refine dt 9 hX (k := ?_)
        (with_reducible apply xs_call); exact rfl; exact rfl; exact one_ret y _
        rintro v w5 ⟨h1, ho⟩; replace hs := hs.call0 ho
        repeat' (first | refine vs (k := ?_) | refine ps (k := ?_) | (refine st hs (k := ?_); intro w hs) | (refine stA hs (k := ?_); intro w hs) | (refine al hs (k := ?_); intro b w hz hs) | (refine bx hs (k := ?_); intro b w hz hs) | (refine bs hs (k := ?_); intro b w hz hs) | refine XS.nil ?_ | refine then_of ?_ | refine xc_seq ?_ | (refine xc_region ?_ ?_; exact rfl) | refine xc_block ?_ | refine block_normal ?_ | refine xc_ret ?_ | refine then_ret ?_ | refine block_ret ?_ | refine xc_skip ?_ | refine xc_exit ?_ | refine then_exit ?_ | refine loopS_exit ?_ | refine loopS_ret ?_ | refine cutB_ret ?_ | refine cutN_ret ?_ | refine cutN_exit ?_ | refine block_exit ?_ | (refine block_other ?_ ?_; exact rfl) | (refine xc_true ?_ ?_; exact rfl) | (refine xc_false ?_ ?_; exact rfl) | ((with_reducible apply xs_guard); exact rfl; exact rfl; intro c hc; (fail_if_success (have : true = c := hc)); (fail_if_success (have : false = c := hc)); cases c) | (refine xc_if rfl (fun hc => ?_) (fun hc => ?_)) | (refine xc_cond rfl (fun hc => ?_) (fun hc => ?_)))
        refine dn (k := ?_)
        refine dt 10 hX (k := ?_)
        have hF2 := hF1.only (hs.onlyF [] (by simp [hbw, hTw, hF1.h2]) (by simp [D0]))
        obtain ⟨o, q2, q7, va, q6, qA⟩ := id hF2
        (with_reducible apply xs_call); exact rfl; exact rfl; exact add6_ret b7 b2 b6 tb p _ (acc ++ l.list) [y] va v _ q7 q2 q6 (o.block hT (by simp)) qA h1 (by simp) (by simp only [List.length_append, List.length_cons, List.length_nil]; omega)
        rintro v6 w6 ⟨va', m7, m6, mA, mo⟩
        have hn := hN67 _ _ hF2
        have hF3 := hF2.add g6 g7 (by simp) m7 m6 mA mo
        have hb3 := hF3.o.block hb (by simp)
        have hT3 := hF3.o.block hT (by simp)
        clear hs
        have hs := (((St.nil w6).track hT3 (by simp)).track hF3.h2 (by simpa using d2)).track hb3 (by simp [d1, hbt])
        repeat' (first | refine vs (k := ?_) | refine ps (k := ?_) | (refine st hs (k := ?_); intro w hs) | (refine stA hs (k := ?_); intro w hs) | (refine al hs (k := ?_); intro b w hz hs) | (refine bx hs (k := ?_); intro b w hz hs) | (refine bs hs (k := ?_); intro b w hz hs) | refine XS.nil ?_ | refine then_of ?_ | refine xc_seq ?_ | (refine xc_region ?_ ?_; exact rfl) | refine xc_block ?_ | refine block_normal ?_ | refine xc_ret ?_ | refine then_ret ?_ | refine block_ret ?_ | refine xc_skip ?_ | refine xc_exit ?_ | refine then_exit ?_ | refine loopS_exit ?_ | refine loopS_ret ?_ | refine cutB_ret ?_ | refine cutN_ret ?_ | refine cutN_exit ?_ | refine block_exit ?_ | (refine block_other ?_ ?_; exact rfl) | (refine xc_true ?_ ?_; exact rfl) | (refine xc_false ?_ ?_; exact rfl) | ((with_reducible apply xs_guard); exact rfl; exact rfl; intro c hc; (fail_if_success (have : true = c := hc)); (fail_if_success (have : false = c := hc)); cases c) | (refine xc_if rfl (fun hc => ?_) (fun hc => ?_)) | (refine xc_cond rfl (fun hc => ?_) (fun hc => ?_)))
        refine dn (k := ?_)
        refine en (k := ?_)
        repeat' (first | refine vs (k := ?_) | refine ps (k := ?_) | (refine st hs (k := ?_); intro w hs) | (refine stA hs (k := ?_); intro w hs) | (refine al hs (k := ?_); intro b w hz hs) | (refine bx hs (k := ?_); intro b w hz hs) | (refine bs hs (k := ?_); intro b w hz hs) | refine XS.nil ?_ | refine then_of ?_ | refine xc_seq ?_ | (refine xc_region ?_ ?_; exact rfl) | refine xc_block ?_ | refine block_normal ?_ | refine xc_ret ?_ | refine then_ret ?_ | refine block_ret ?_ | refine xc_skip ?_ | refine xc_exit ?_ | refine then_exit ?_ | refine loopS_exit ?_ | refine loopS_ret ?_ | refine cutB_ret ?_ | refine cutN_ret ?_ | refine cutN_exit ?_ | refine block_exit ?_ | (refine block_other ?_ ?_; exact rfl) | (refine xc_true ?_ ?_; exact rfl) | (refine xc_false ?_ ?_; exact rfl) | ((with_reducible apply xs_guard); exact rfl; exact rfl; intro c hc; (fail_if_success (have : true = c := hc)); (fail_if_success (have : false = c := hc)); cases c) | (refine xc_if rfl (fun hc => ?_) (fun hc => ?_)) | (refine xc_cond rfl (fun hc => ?_) (fun hc => ?_)))
        exact loopS_next (r, pr, acc ++ l.list ++ [y]) (by simp only [RB.list, List.length_append, List.length_cons]; omega) (by (repeat (first | exact agree_nil | (apply agree_cons; exact rfl)))) ⟨hF3.only (hs.onlyF [] (by simp [hb3, hT3, hF3.h2]) (by simp [D0])), by rw [k2]; simp, by simp only [List.length_append, List.length_cons, List.length_nil]; omega, fr, hr⟩
  · rintro _ env w ⟨o, k2, k7, va, k6, kA⟩
    clear hs hF0
    have d1 : b7 ≠ b6 := blocks_ne k7 k6 (by decide)
    have hs := ((St.nil w).track k6 (by simp)).track k7 (by simpa using d1)
    repeat' (first | refine vs (k := ?_) | refine ps (k := ?_) | (refine st hs (k := ?_); intro w hs) | (refine stA hs (k := ?_); intro w hs) | (refine al hs (k := ?_); intro b w hz hs) | (refine bx hs (k := ?_); intro b w hz hs) | (refine bs hs (k := ?_); intro b w hz hs) | refine XS.nil ?_ | refine then_of ?_ | refine xc_seq ?_ | (refine xc_region ?_ ?_; exact rfl) | refine xc_block ?_ | refine block_normal ?_ | refine xc_ret ?_ | refine then_ret ?_ | refine block_ret ?_ | refine xc_skip ?_ | refine xc_exit ?_ | refine then_exit ?_ | refine loopS_exit ?_ | refine loopS_ret ?_ | refine cutB_ret ?_ | refine cutN_ret ?_ | refine cutN_exit ?_ | refine block_exit ?_ | (refine block_other ?_ ?_; exact rfl) | (refine xc_true ?_ ?_; exact rfl) | (refine xc_false ?_ ?_; exact rfl) | ((with_reducible apply xs_guard); exact rfl; exact rfl; intro c hc; (fail_if_success (have : true = c := hc)); (fail_if_success (have : false = c := hc)); cases c) | (refine xc_if rfl (fun hc => ?_) (fun hc => ?_)) | (refine xc_cond rfl (fun hc => ?_) (fun hc => ?_)))
    refine dr [] hs (k := ?_); intro hX w hs
    refine tk 0 hX (k := ?_)
    refine tk 1 hX (k := ?_)
    refine tk 2 hX (k := ?_)
    refine tk 3 hX (k := ?_)
    refine en (k := ?_)
    repeat' (first | refine vs (k := ?_) | refine ps (k := ?_) | (refine st hs (k := ?_); intro w hs) | (refine stA hs (k := ?_); intro w hs) | (refine al hs (k := ?_); intro b w hz hs) | (refine bx hs (k := ?_); intro b w hz hs) | (refine bs hs (k := ?_); intro b w hz hs) | refine XS.nil ?_ | refine then_of ?_ | refine xc_seq ?_ | (refine xc_region ?_ ?_; exact rfl) | refine xc_block ?_ | refine block_normal ?_ | refine xc_ret ?_ | refine then_ret ?_ | refine block_ret ?_ | refine xc_skip ?_ | refine xc_exit ?_ | refine then_exit ?_ | refine loopS_exit ?_ | refine loopS_ret ?_ | refine cutB_ret ?_ | refine cutN_ret ?_ | refine cutN_exit ?_ | refine block_exit ?_ | (refine block_other ?_ ?_; exact rfl) | (refine xc_true ?_ ?_; exact rfl) | (refine xc_false ?_ ?_; exact rfl) | ((with_reducible apply xs_guard); exact rfl; exact rfl; intro c hc; (fail_if_success (have : true = c := hc)); (fail_if_success (have : false = c := hc)); cases c) | (refine xc_if rfl (fun hc => ?_) (fun hc => ?_)) | (refine xc_cond rfl (fun hc => ?_) (fun hc => ?_)))
    first | refine rt (hq := ?_) | refine rt' (hq := ?_)
    have ho := hs.onlyF [] (by simp [k6, k7]) (by simp [D0])
    exact ⟨⟨va, rfl, kA.only ho⟩, o.step ho (by simp)⟩
end Go.Proofs.YtjooegonmdmajaaX
