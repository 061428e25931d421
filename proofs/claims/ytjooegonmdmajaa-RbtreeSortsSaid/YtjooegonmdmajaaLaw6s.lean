/- Layer 6: the body of law06.RbtreeSorts. -/
import Derived.Test.YtjooegonmdmajaaSort7
import Derived.Test.YtjooegonmdmajaaLaw6d
set_option linter.unusedVariables false
set_option linter.unusedSimpArgs false
set_option maxRecDepth 100000
namespace Go.Proofs.YtjooegonmdmajaaX
open Go Go.RowKit
attribute [local irreducible] XS XC XA thenE blockE retE loopE loopS cutB cutN doneE SE
theorem SlV.lit {w : World} {v : Value} {xs : List Int} {G : List Nat} (h : SlV w 3 1 v xs.length (ints xs) G) : ∃ ad cp, v = .slice ad xs.length cp := by
  obtain ⟨ad, cp, e, _⟩ := h.dat
  exact ⟨ad, cp, e⟩
theorem compact_le (S : List Int) : (Lib.compact S).length ≤ S.length := by
  unfold Lib.compact Lib.compactUpTo
  rw [List.length_map]
  exact Nat.le_trans (List.length_filter_le _ _) (by simp)
theorem mem_sans (x z : Int) (l : List Int) : z ∈ RB.sans x l ↔ z ∈ l ∧ z ≠ x := by
  unfold RB.sans
  simp
/-- What stands in the slice that goes in. -/
def InAt (w0 : World) (l : List Int) (v : Value) (w : World) : Prop := Only [] w0 w ∧ ∃ ys G, SlV w 3 1 v l.length (ints ys) G ∧ New w0 G ∧ ys.length = l.length ∧ ∀ z, z ∈ ys ↔ z ∈ l
theorem InAt.only {w0 w w' : World} {l : List Int} {v : Value} (h : InAt w0 l v w) (ho : Only [] w w') : InAt w0 l v w' := by
  obtain ⟨o, ys, G, h1, h2, h3, h4⟩ := h
  exact ⟨o.step ho (by simp), ys, G, h1.keep ho (by simp), h2, h3, h4⟩
set_option maxHeartbeats 4000000 in
theorem rbtreeSorts_ret (l : List Int) (sl : Value) (by0 : Int) (w0 : World) (hL : LAt w0 sl l) : Ret Try.prog 12 #[sl, .int .u8 by0] w0 fun v w' => v = .bool true ∧ Only [] w0 w' := by
  have hL0 := hL
  obtain ⟨ad, cap, rfl, hD⟩ := hL
  have hs := St.nil w0
  have LK : ∀ w, Only [] w0 w → LAt w (.slice ad l.length cap) l := fun w o => by
    obtain ⟨ad', cap', e, h⟩ := hL0
    refine ⟨ad', cap', e, fun hn => ?_⟩
    obtain ⟨b, off, cs, E, fz, h1, h2, h3⟩ := h hn
    exact ⟨b, off, cs, E, fz, h1, o.block h2 (by simp), h3⟩
  refine ret_of_xc Try.func12 (by kernel_rfl) rfl Try.ntmps12 rfl rfl rfl ?_
  repeat' (first | refine vs (k := ?_) | refine ps (k := ?_) | (refine st hs (k := ?_); intro w hs) | (refine stA hs (k := ?_); intro w hs) | (refine al hs (k := ?_); intro b w hz hs) | (refine bx hs (k := ?_); intro b w hz hs) | (refine bs hs (k := ?_); intro b w hz hs) | refine XS.nil ?_ | refine then_of ?_ | refine xc_seq ?_ | (refine xc_region ?_ ?_; exact rfl) | refine xc_block ?_ | refine block_normal ?_ | refine xc_ret ?_ | refine then_ret ?_ | refine block_ret ?_ | refine xc_skip ?_ | refine xc_exit ?_ | refine then_exit ?_ | refine loopS_exit ?_ | refine loopS_ret ?_ | refine cutB_ret ?_ | refine cutN_ret ?_ | refine cutN_exit ?_ | refine block_exit ?_ | (refine block_other ?_ ?_; exact rfl) | (refine xc_true ?_ ?_; exact rfl) | (refine xc_false ?_ ?_; exact rfl) | ((with_reducible apply xs_guard); exact rfl; exact rfl; intro c hc; (fail_if_success (have : true = c := hc)); (fail_if_success (have : false = c := hc)); cases c) | (refine xc_if rfl (fun hc => ?_) (fun hc => ?_)) | (refine xc_cond rfl (fun hc => ?_) (fun hc => ?_)))
  (with_reducible apply xs_call); exact rfl; exact rfl; exact awake6_ret _
  rintro v w' ⟨rfl, ho⟩; replace hs := hs.call0 ho
  repeat' (first | refine vs (k := ?_) | refine ps (k := ?_) | (refine st hs (k := ?_); intro w hs) | (refine stA hs (k := ?_); intro w hs) | (refine al hs (k := ?_); intro b w hz hs) | (refine bx hs (k := ?_); intro b w hz hs) | (refine bs hs (k := ?_); intro b w hz hs) | refine XS.nil ?_ | refine then_of ?_ | refine xc_seq ?_ | (refine xc_region ?_ ?_; exact rfl) | refine xc_block ?_ | refine block_normal ?_ | refine xc_ret ?_ | refine then_ret ?_ | refine block_ret ?_ | refine xc_skip ?_ | refine xc_exit ?_ | refine then_exit ?_ | refine loopS_exit ?_ | refine loopS_ret ?_ | refine cutB_ret ?_ | refine cutN_ret ?_ | refine cutN_exit ?_ | refine block_exit ?_ | (refine block_other ?_ ?_; exact rfl) | (refine xc_true ?_ ?_; exact rfl) | (refine xc_false ?_ ?_; exact rfl) | ((with_reducible apply xs_guard); exact rfl; exact rfl; intro c hc; (fail_if_success (have : true = c := hc)); (fail_if_success (have : false = c := hc)); cases c) | (refine xc_if rfl (fun hc => ?_) (fun hc => ?_)) | (refine xc_cond rfl (fun hc => ?_) (fun hc => ?_)))
  · first | refine rt (hq := ?_) | refine rt' (hq := ?_)
    exact ⟨rfl, hs.only0 rfl⟩
  · have hlen : l.length ≤ 300 := by omega
    have oA := hs.only0 rfl
    (with_reducible apply xs_call); exact rfl; exact rfl; exact clone6_ret _ l (by omega) _ (LK _ oA)
    rintro v w1 ⟨⟨G, hS, hG⟩, ho⟩
    have hIn : InAt w0 l v w1 := ⟨oA.step ho (by simp), l, G, hS, fun k hk => Nat.le_trans oA.size (hG k hk), rfl, fun z => Iff.rfl⟩
    obtain ⟨ad5, cp5, rfl⟩ := hS.lit
    clear hs hS hG ho G
    have hs := St.nil w1
    refine vs (k := ?_)
    refine XS.nil ?_
    refine then_of ?_
    refine xc_seq ?_
    refine xc_seq ?_
    refine xc_region ?_ ?_; exact rfl
    refine vs (k := ?_)
    refine xs_val rfl (r_rem (by decide) rfl rfl) ?_
    refine XS.nil ?_
    refine then_of ?_
    refine xc_block ?_
    refine xc_cutB (fun _ : Unit => [(0, .slice ad l.length cap), (4, .bool false), (5, .slice ad5 l.length cp5)]) (fun _ w => InAt w0 l (.slice ad5 l.length cp5) w) ?_ ?_
    · have sortIn : ∀ (w : World), InAt w0 l (.slice ad5 l.length cp5) w → Ret Try.prog 55 #[.slice ad5 l.length cp5] w fun _ w' => InAt w0 l (.slice ad5 l.length cp5) w' := fun w ⟨o, ys, G, h1, h2, h3, h4⟩ => by
        rw [← h3] at h1 ⊢
        refine (sort6_ret _ ys G (by omega) w h1).mono fun _ w' ⟨k1, k2⟩ => ⟨o.news h2 k2, _, G, by rw [← h3]; exact k1, h2, by rw [List.length_mergeSort]; exact h3, fun z => by rw [List.mem_mergeSort]; exact h4 z⟩
      have revIn : ∀ (w : World), InAt w0 l (.slice ad5 l.length cp5) w → Ret Try.prog 56 #[.slice ad5 l.length cp5] w fun _ w' => InAt w0 l (.slice ad5 l.length cp5) w' := fun w ⟨o, ys, G, h1, h2, h3, h4⟩ => by
        rw [← h3] at h1 ⊢
        refine (reverse6_ret _ ys G (by omega) w h1).mono fun _ w' ⟨k1, k2⟩ => ⟨o.news h2 k2, _, G, by rw [← h3]; exact k1, h2, by rw [List.length_reverse]; exact h3, fun z => by rw [List.mem_reverse]; exact h4 z⟩
      generalize by0.tmod 3 = r
      repeat' (first | refine vs (k := ?_) | refine ps (k := ?_) | (refine st hs (k := ?_); intro w hs) | (refine stA hs (k := ?_); intro w hs) | (refine al hs (k := ?_); intro b w hz hs) | (refine bx hs (k := ?_); intro b w hz hs) | (refine bs hs (k := ?_); intro b w hz hs) | refine XS.nil ?_ | refine then_of ?_ | refine xc_seq ?_ | (refine xc_region ?_ ?_; exact rfl) | refine xc_block ?_ | refine block_normal ?_ | refine xc_ret ?_ | refine then_ret ?_ | refine block_ret ?_ | refine xc_skip ?_ | refine xc_exit ?_ | refine then_exit ?_ | refine loopS_exit ?_ | refine loopS_ret ?_ | refine cutB_ret ?_ | refine cutN_ret ?_ | refine cutN_exit ?_ | refine block_exit ?_ | (refine block_other ?_ ?_; exact rfl) | (refine xc_true ?_ ?_; exact rfl) | (refine xc_false ?_ ?_; exact rfl) | ((with_reducible apply xs_guard); exact rfl; exact rfl; intro c hc; (fail_if_success (have : true = c := hc)); (fail_if_success (have : false = c := hc)); cases c) | (refine xc_if rfl (fun hc => ?_) (fun hc => ?_)) | (refine xc_cond rfl (fun hc => ?_) (fun hc => ?_)))
      · (with_reducible apply xs_call); exact rfl; exact rfl; exact sortIn _ (hIn.only (hs.only0 rfl))
        rintro v w2 h2
        clear hs
        have hs := St.nil w2
        repeat' (first | refine vs (k := ?_) | refine ps (k := ?_) | (refine st hs (k := ?_); intro w hs) | (refine stA hs (k := ?_); intro w hs) | (refine al hs (k := ?_); intro b w hz hs) | (refine bx hs (k := ?_); intro b w hz hs) | (refine bs hs (k := ?_); intro b w hz hs) | refine XS.nil ?_ | refine then_of ?_ | refine xc_seq ?_ | (refine xc_region ?_ ?_; exact rfl) | refine xc_block ?_ | refine block_normal ?_ | refine xc_ret ?_ | refine then_ret ?_ | refine block_ret ?_ | refine xc_skip ?_ | refine xc_exit ?_ | refine then_exit ?_ | refine loopS_exit ?_ | refine loopS_ret ?_ | refine cutB_ret ?_ | refine cutN_ret ?_ | refine cutN_exit ?_ | refine block_exit ?_ | (refine block_other ?_ ?_; exact rfl) | (refine xc_true ?_ ?_; exact rfl) | (refine xc_false ?_ ?_; exact rfl) | ((with_reducible apply xs_guard); exact rfl; exact rfl; intro c hc; (fail_if_success (have : true = c := hc)); (fail_if_success (have : false = c := hc)); cases c) | (refine xc_if rfl (fun hc => ?_) (fun hc => ?_)) | (refine xc_cond rfl (fun hc => ?_) (fun hc => ?_)))
        exact cutB_normal () (by (repeat (first | exact agree_nil | (apply agree_cons; exact rfl)))) (h2.only (hs.only0 rfl))
      · (with_reducible apply xs_call); exact rfl; exact rfl; exact sortIn _ (hIn.only (hs.only0 rfl))
        rintro v w2 h2
        clear hs
        have hs := St.nil w2
        repeat' (first | refine vs (k := ?_) | refine ps (k := ?_) | (refine st hs (k := ?_); intro w hs) | (refine stA hs (k := ?_); intro w hs) | (refine al hs (k := ?_); intro b w hz hs) | (refine bx hs (k := ?_); intro b w hz hs) | (refine bs hs (k := ?_); intro b w hz hs) | refine XS.nil ?_ | refine then_of ?_ | refine xc_seq ?_ | (refine xc_region ?_ ?_; exact rfl) | refine xc_block ?_ | refine block_normal ?_ | refine xc_ret ?_ | refine then_ret ?_ | refine block_ret ?_ | refine xc_skip ?_ | refine xc_exit ?_ | refine then_exit ?_ | refine loopS_exit ?_ | refine loopS_ret ?_ | refine cutB_ret ?_ | refine cutN_ret ?_ | refine cutN_exit ?_ | refine block_exit ?_ | (refine block_other ?_ ?_; exact rfl) | (refine xc_true ?_ ?_; exact rfl) | (refine xc_false ?_ ?_; exact rfl) | ((with_reducible apply xs_guard); exact rfl; exact rfl; intro c hc; (fail_if_success (have : true = c := hc)); (fail_if_success (have : false = c := hc)); cases c) | (refine xc_if rfl (fun hc => ?_) (fun hc => ?_)) | (refine xc_cond rfl (fun hc => ?_) (fun hc => ?_)))
        (with_reducible apply xs_call); exact rfl; exact rfl; exact revIn _ (h2.only (hs.only0 rfl))
        rintro v w3 h3
        clear hs
        have hs := St.nil w3
        repeat' (first | refine vs (k := ?_) | refine ps (k := ?_) | (refine st hs (k := ?_); intro w hs) | (refine stA hs (k := ?_); intro w hs) | (refine al hs (k := ?_); intro b w hz hs) | (refine bx hs (k := ?_); intro b w hz hs) | (refine bs hs (k := ?_); intro b w hz hs) | refine XS.nil ?_ | refine then_of ?_ | refine xc_seq ?_ | (refine xc_region ?_ ?_; exact rfl) | refine xc_block ?_ | refine block_normal ?_ | refine xc_ret ?_ | refine then_ret ?_ | refine block_ret ?_ | refine xc_skip ?_ | refine xc_exit ?_ | refine then_exit ?_ | refine loopS_exit ?_ | refine loopS_ret ?_ | refine cutB_ret ?_ | refine cutN_ret ?_ | refine cutN_exit ?_ | refine block_exit ?_ | (refine block_other ?_ ?_; exact rfl) | (refine xc_true ?_ ?_; exact rfl) | (refine xc_false ?_ ?_; exact rfl) | ((with_reducible apply xs_guard); exact rfl; exact rfl; intro c hc; (fail_if_success (have : true = c := hc)); (fail_if_success (have : false = c := hc)); cases c) | (refine xc_if rfl (fun hc => ?_) (fun hc => ?_)) | (refine xc_cond rfl (fun hc => ?_) (fun hc => ?_)))
        exact cutB_normal () (by (repeat (first | exact agree_nil | (apply agree_cons; exact rfl)))) (h3.only (hs.only0 rfl))
      · exact cutB_normal () (by (repeat (first | exact agree_nil | (apply agree_cons; exact rfl)))) (hIn.only (hs.only0 rfl))
    clear hs hIn
    rintro _ env w2 ⟨o2, ys, G, hS, hG, hyl, hym⟩
    have hs := St.nil w2
    have hv5 : DAt w2 (.slice ad5 l.length cp5) ys := by rw [← hyl] at hS ⊢; exact hS.dat
    clear hS hG G
    repeat' (first | refine vs (k := ?_) | refine ps (k := ?_) | (refine st hs (k := ?_); intro w hs) | (refine stA hs (k := ?_); intro w hs) | (refine al hs (k := ?_); intro b w hz hs) | (refine bx hs (k := ?_); intro b w hz hs) | (refine bs hs (k := ?_); intro b w hz hs) | refine XS.nil ?_ | refine then_of ?_ | refine xc_seq ?_ | (refine xc_region ?_ ?_; exact rfl) | refine xc_block ?_ | refine block_normal ?_ | refine xc_ret ?_ | refine then_ret ?_ | refine block_ret ?_ | refine xc_skip ?_ | refine xc_exit ?_ | refine then_exit ?_ | refine loopS_exit ?_ | refine loopS_ret ?_ | refine cutB_ret ?_ | refine cutN_ret ?_ | refine cutN_exit ?_ | refine block_exit ?_ | (refine block_other ?_ ?_; exact rfl) | (refine xc_true ?_ ?_; exact rfl) | (refine xc_false ?_ ?_; exact rfl) | ((with_reducible apply xs_guard); exact rfl; exact rfl; intro c hc; (fail_if_success (have : true = c := hc)); (fail_if_success (have : false = c := hc)); cases c) | (refine xc_if rfl (fun hc => ?_) (fun hc => ?_)) | (refine xc_cond rfl (fun hc => ?_) (fun hc => ?_)))
    (with_reducible apply xs_call); exact rfl; exact rfl; exact setNew_ret _
    rintro v w3 ⟨tb, F0, rfl, h0, hn0, ho⟩
    have oB := o2.step (hs.only0 rfl) (by simp)
    have o3 := oB.step ho (by simp)
    have n0 : New w0 F0 := fun k hk => Nat.le_trans oB.size (hn0 k hk)
    have hv6 := (hv5.only (hs.only0 rfl)).only ho
    clear hs hv5 hn0 ho oB o2
    have hs := St.nil w3
    repeat' (first | refine vs (k := ?_) | refine ps (k := ?_) | (refine st hs (k := ?_); intro w hs) | (refine stA hs (k := ?_); intro w hs) | (refine al hs (k := ?_); intro b w hz hs) | (refine bx hs (k := ?_); intro b w hz hs) | (refine bs hs (k := ?_); intro b w hz hs) | refine XS.nil ?_ | refine then_of ?_ | refine xc_seq ?_ | (refine xc_region ?_ ?_; exact rfl) | refine xc_block ?_ | refine block_normal ?_ | refine xc_ret ?_ | refine then_ret ?_ | refine block_ret ?_ | refine xc_skip ?_ | refine xc_exit ?_ | refine then_exit ?_ | refine loopS_exit ?_ | refine loopS_ret ?_ | refine cutB_ret ?_ | refine cutN_ret ?_ | refine cutN_exit ?_ | refine block_exit ?_ | (refine block_other ?_ ?_; exact rfl) | (refine xc_true ?_ ?_; exact rfl) | (refine xc_false ?_ ?_; exact rfl) | ((with_reducible apply xs_guard); exact rfl; exact rfl; intro c hc; (fail_if_success (have : true = c := hc)); (fail_if_success (have : false = c := hc)); cases c) | (refine xc_if rfl (fun hc => ?_) (fun hc => ?_)) | (refine xc_cond rfl (fun hc => ?_) (fun hc => ?_)))
    refine xc_cutB (fun _ : Unit => [(0, .slice ad l.length cap), (4, .bool false), (6, .pointer (some ⟨tb, 0, none⟩))]) (fun _ w => Only [] w0 w ∧ ∃ xs F, Set6 w tb xs F ∧ New w0 F ∧ xs.length ≤ 300 ∧ ∀ z, z ∈ xs ↔ z ∈ l) ?_ ?_
    · refine xc_loopS (fun (i : Nat) => [(0, .slice ad l.length cap), (4, .bool false), (6, .pointer (some ⟨tb, 0, none⟩)), (32, .slice ad5 l.length cp5), (33, .int .i64 (l.length : Nat)), (34, .int .i64 (i : Nat))])
        (fun i w => i ≤ l.length ∧ Only [] w0 w ∧ DAt w (.slice ad5 l.length cp5) ys ∧ ∃ xs F, Set6 w tb xs F ∧ New w0 F ∧ xs.length ≤ i ∧ ∀ z, z ∈ xs ↔ z ∈ ys.take i)
        (fun i => l.length - i) 0 (by (repeat (first | exact agree_nil | (apply agree_cons; exact rfl)))) ⟨Nat.zero_le _, o3.step (hs.only0 rfl) (by simp), hv6.only (hs.only0 rfl), [], F0, h0.only (hs.only0 rfl), n0, Nat.le_refl _, by simp⟩ fun i env w4 ⟨hi, o4, hv, xs, F, hx, hn, hxl, hm⟩ => ?_
      clear hs hv6 h0
      have hs := St.nil w4
      repeat' (first | refine vs (k := ?_) | refine ps (k := ?_) | (refine st hs (k := ?_); intro w hs) | (refine stA hs (k := ?_); intro w hs) | (refine al hs (k := ?_); intro b w hz hs) | (refine bx hs (k := ?_); intro b w hz hs) | (refine bs hs (k := ?_); intro b w hz hs) | refine XS.nil ?_ | refine then_of ?_ | refine xc_seq ?_ | (refine xc_region ?_ ?_; exact rfl) | refine xc_block ?_ | refine block_normal ?_ | refine xc_ret ?_ | refine then_ret ?_ | refine block_ret ?_ | refine xc_skip ?_ | refine xc_exit ?_ | refine then_exit ?_ | refine loopS_exit ?_ | refine loopS_ret ?_ | refine cutB_ret ?_ | refine cutN_ret ?_ | refine cutN_exit ?_ | refine block_exit ?_ | (refine block_other ?_ ?_; exact rfl) | (refine xc_true ?_ ?_; exact rfl) | (refine xc_false ?_ ?_; exact rfl) | ((with_reducible apply xs_guard); exact rfl; exact rfl; intro c hc; (fail_if_success (have : true = c := hc)); (fail_if_success (have : false = c := hc)); cases c) | (refine xc_if rfl (fun hc => ?_) (fun hc => ?_)) | (refine xc_cond rfl (fun hc => ?_) (fun hc => ?_)))
      · have hlt : i < ys.length := by omega
        obtain ⟨_, _, e5, hd5⟩ := id hv
        injection e5 with e6 e7 e8
        subst e6 e8
        obtain ⟨b, off, cs, fz, rfl, hcap, hb, hcs⟩ := hd5 (fun h => by rw [h] at hlt; cases hlt)
        have g0 := hcs i _ (List.getElem?_eq_getElem hlt)
        have m0 : ∀ z, z ∈ ys.take (i + 1) ↔ z = ys[i] ∨ z ∈ ys.take i := fun z => by
          rw [List.take_add_one, List.getElem?_eq_getElem hlt]
          simp only [Option.toList, List.mem_append, List.mem_singleton]
          exact Or.comm
        generalize ys[i] = x at *
        have ei : IntKind.i64.wrap ((i : Int) + 1) = ((i + 1 : Nat) : Int) := next64' hlt (by omega)
        refine ix (h0 := (by omega)) (h1 := (by omega)) (k := ?_)
        refine lh hb (v := .int .i64 x) (show cs[off + ((i : Nat) : Int).toNat * 1]? = some (.int .i64 x) by simpa using g0) (k := ?_)
        repeat' (first | refine vs (k := ?_) | refine ps (k := ?_) | (refine st hs (k := ?_); intro w hs) | (refine stA hs (k := ?_); intro w hs) | (refine al hs (k := ?_); intro b w hz hs) | (refine bx hs (k := ?_); intro b w hz hs) | (refine bs hs (k := ?_); intro b w hz hs) | refine XS.nil ?_ | refine then_of ?_ | refine xc_seq ?_ | (refine xc_region ?_ ?_; exact rfl) | refine xc_block ?_ | refine block_normal ?_ | refine xc_ret ?_ | refine then_ret ?_ | refine block_ret ?_ | refine xc_skip ?_ | refine xc_exit ?_ | refine then_exit ?_ | refine loopS_exit ?_ | refine loopS_ret ?_ | refine cutB_ret ?_ | refine cutN_ret ?_ | refine cutN_exit ?_ | refine block_exit ?_ | (refine block_other ?_ ?_; exact rfl) | (refine xc_true ?_ ?_; exact rfl) | (refine xc_false ?_ ?_; exact rfl) | ((with_reducible apply xs_guard); exact rfl; exact rfl; intro c hc; (fail_if_success (have : true = c := hc)); (fail_if_success (have : false = c := hc)); cases c) | (refine xc_if rfl (fun hc => ?_) (fun hc => ?_)) | (refine xc_cond rfl (fun hc => ?_) (fun hc => ?_)))
        have ho3 := hs.only0 rfl
        (with_reducible apply xs_call); exact rfl; exact rfl; exact setInsert_ret tb xs F x _ (hx.only ho3) (by omega)
        rintro v w5 ⟨rfl, F', k1, k2, k3⟩
        have o5 := o4.step ho3 (by simp)
        have hv2 := (hv.only ho3).keepI k3 (hx.only ho3).noInt
        have n2 := hn.step o5 k2
        have o6 := o5.news hn k3
        clear hs
        have hs := St.nil w5
        repeat' (first | refine vs (k := ?_) | refine ps (k := ?_) | (refine st hs (k := ?_); intro w hs) | (refine stA hs (k := ?_); intro w hs) | (refine al hs (k := ?_); intro b w hz hs) | (refine bx hs (k := ?_); intro b w hz hs) | (refine bs hs (k := ?_); intro b w hz hs) | refine XS.nil ?_ | refine then_of ?_ | refine xc_seq ?_ | (refine xc_region ?_ ?_; exact rfl) | refine xc_block ?_ | refine block_normal ?_ | refine xc_ret ?_ | refine then_ret ?_ | refine block_ret ?_ | refine xc_skip ?_ | refine xc_exit ?_ | refine then_exit ?_ | refine loopS_exit ?_ | refine loopS_ret ?_ | refine cutB_ret ?_ | refine cutN_ret ?_ | refine cutN_exit ?_ | refine block_exit ?_ | (refine block_other ?_ ?_; exact rfl) | (refine xc_true ?_ ?_; exact rfl) | (refine xc_false ?_ ?_; exact rfl) | ((with_reducible apply xs_guard); exact rfl; exact rfl; intro c hc; (fail_if_success (have : true = c := hc)); (fail_if_success (have : false = c := hc)); cases c) | (refine xc_if rfl (fun hc => ?_) (fun hc => ?_)) | (refine xc_cond rfl (fun hc => ?_) (fun hc => ?_)))
        exact loopS_next (i + 1) (by omega) (by (repeat (first | exact agree_nil | (apply agree_cons; first | exact rfl | exact congrArg (Value.int .i64) ei)))) ⟨by omega, o6.step (hs.only0 rfl) (by simp), hv2.only (hs.only0 rfl), _, F', k1.only (hs.only0 rfl), n2, by have := insS_len x xs; omega, fun z => by rw [mem_insS, m0, hm]⟩
      · have e : ys.take i = ys := List.take_of_length_le (by omega)
        rw [e] at hm
        exact cutB_exit () (by (repeat (first | exact agree_nil | (apply agree_cons; exact rfl)))) ⟨o4.step (hs.only0 rfl) (by simp), xs, F, hx.only (hs.only0 rfl), hn, by omega, fun z => (hm z).trans (hym z)⟩
    clear hs hv6 h0 n0 o3
    rintro _ env w4 ⟨o4, xs, F, hx, hn, hxl, hm⟩
    have hs := St.nil w4
    repeat' (first | refine vs (k := ?_) | refine ps (k := ?_) | (refine st hs (k := ?_); intro w hs) | (refine stA hs (k := ?_); intro w hs) | (refine al hs (k := ?_); intro b w hz hs) | (refine bx hs (k := ?_); intro b w hz hs) | (refine bs hs (k := ?_); intro b w hz hs) | refine XS.nil ?_ | refine then_of ?_ | refine xc_seq ?_ | (refine xc_region ?_ ?_; exact rfl) | refine xc_block ?_ | refine block_normal ?_ | refine xc_ret ?_ | refine then_ret ?_ | refine block_ret ?_ | refine xc_skip ?_ | refine xc_exit ?_ | refine then_exit ?_ | refine loopS_exit ?_ | refine loopS_ret ?_ | refine cutB_ret ?_ | refine cutN_ret ?_ | refine cutN_exit ?_ | refine block_exit ?_ | (refine block_other ?_ ?_; exact rfl) | (refine xc_true ?_ ?_; exact rfl) | (refine xc_false ?_ ?_; exact rfl) | ((with_reducible apply xs_guard); exact rfl; exact rfl; intro c hc; (fail_if_success (have : true = c := hc)); (fail_if_success (have : false = c := hc)); cases c) | (refine xc_if rfl (fun hc => ?_) (fun hc => ?_)) | (refine xc_cond rfl (fun hc => ?_) (fun hc => ?_)))
    have o5 := o4.step (hs.only0 rfl) (by simp)
    (with_reducible apply xs_call); exact rfl; exact rfl; exact clone6_ret _ l (by omega) _ (LK _ o5)
    rintro v w5 ⟨⟨G, hS, hG⟩, ho⟩
    obtain ⟨ad9, cp9, rfl⟩ := hS.lit
    have hx5 := (hx.only (hs.only0 rfl)).only ho
    have o6 := o5.step ho (by simp)
    have hG0 : New w0 G := fun k hk => Nat.le_trans o5.size (hG k hk)
    have hx4 := hx.only (hs.only0 rfl)
    clear hs
    have hs := St.nil w5
    repeat' (first | refine vs (k := ?_) | refine ps (k := ?_) | (refine st hs (k := ?_); intro w hs) | (refine stA hs (k := ?_); intro w hs) | (refine al hs (k := ?_); intro b w hz hs) | (refine bx hs (k := ?_); intro b w hz hs) | (refine bs hs (k := ?_); intro b w hz hs) | refine XS.nil ?_ | refine then_of ?_ | refine xc_seq ?_ | (refine xc_region ?_ ?_; exact rfl) | refine xc_block ?_ | refine block_normal ?_ | refine xc_ret ?_ | refine then_ret ?_ | refine block_ret ?_ | refine xc_skip ?_ | refine xc_exit ?_ | refine then_exit ?_ | refine loopS_exit ?_ | refine loopS_ret ?_ | refine cutB_ret ?_ | refine cutN_ret ?_ | refine cutN_exit ?_ | refine block_exit ?_ | (refine block_other ?_ ?_; exact rfl) | (refine xc_true ?_ ?_; exact rfl) | (refine xc_false ?_ ?_; exact rfl) | ((with_reducible apply xs_guard); exact rfl; exact rfl; intro c hc; (fail_if_success (have : true = c := hc)); (fail_if_success (have : false = c := hc)); cases c) | (refine xc_if rfl (fun hc => ?_) (fun hc => ?_)) | (refine xc_cond rfl (fun hc => ?_) (fun hc => ?_)))
    have ho6 := hs.only0 rfl
    (with_reducible apply xs_call); exact rfl; exact rfl; exact sort6_ret _ l G (by omega) _ (hS.keep ho6 (by simp))
    rintro v w6 ⟨hS2, ho7⟩
    -- the tree stood ahead of the clone
    have hx6 := hx4.only ((ho.step ho6 (by simp)).news hG ho7)
    have o7 := (o6.step ho6 (by simp)).news hG0 ho7
    clear hs hx5 hS
    have hs := St.nil w6
    repeat' (first | refine vs (k := ?_) | refine ps (k := ?_) | (refine st hs (k := ?_); intro w hs) | (refine stA hs (k := ?_); intro w hs) | (refine al hs (k := ?_); intro b w hz hs) | (refine bx hs (k := ?_); intro b w hz hs) | (refine bs hs (k := ?_); intro b w hz hs) | refine XS.nil ?_ | refine then_of ?_ | refine xc_seq ?_ | (refine xc_region ?_ ?_; exact rfl) | refine xc_block ?_ | refine block_normal ?_ | refine xc_ret ?_ | refine then_ret ?_ | refine block_ret ?_ | refine xc_skip ?_ | refine xc_exit ?_ | refine then_exit ?_ | refine loopS_exit ?_ | refine loopS_ret ?_ | refine cutB_ret ?_ | refine cutN_ret ?_ | refine cutN_exit ?_ | refine block_exit ?_ | (refine block_other ?_ ?_; exact rfl) | (refine xc_true ?_ ?_; exact rfl) | (refine xc_false ?_ ?_; exact rfl) | ((with_reducible apply xs_guard); exact rfl; exact rfl; intro c hc; (fail_if_success (have : true = c := hc)); (fail_if_success (have : false = c := hc)); cases c) | (refine xc_if rfl (fun hc => ?_) (fun hc => ?_)) | (refine xc_cond rfl (fun hc => ?_) (fun hc => ?_)))
    have ho8 := hs.only0 rfl
    have hml : (l.mergeSort fun x y => decide (x ≤ y)).length = l.length := List.length_mergeSort l
    (with_reducible apply xs_call); exact rfl; exact rfl; exact compact6_ret _ (l.mergeSort fun x y => decide (x ≤ y)) G (by omega) (compact_le _) _ (by rw [hml]; exact hS2.keep ho8 (by simp))
    rintro v w7 ⟨hC, ho9⟩
    have hx7 := hx4.only (((ho.step ho6 (by simp)).news hG ho7 |>.step ho8 (by simp)).news hG ho9)
    have o8 := (o7.step ho8 (by simp)).news hG0 ho9
    obtain ⟨adc, cpc, rfl, _⟩ := id hC
    clear hs
    have hs := St.nil w7
    obtain ⟨RC, hs, hC⟩ := hC.read hs rfl
    have hcx : xs = Lib.compact (l.mergeSort fun x y => decide (x ≤ y)) := srt_ext hx.srt (compact_srt (srt_merge l)) fun z => by rw [mem_compact, List.mem_mergeSort, hm]
    repeat' (first | refine vs (k := ?_) | refine ps (k := ?_) | (refine st hs (k := ?_); intro w hs) | (refine stA hs (k := ?_); intro w hs) | (refine al hs (k := ?_); intro b w hz hs) | (refine bx hs (k := ?_); intro b w hz hs) | (refine bs hs (k := ?_); intro b w hz hs) | refine XS.nil ?_ | refine then_of ?_ | refine xc_seq ?_ | (refine xc_region ?_ ?_; exact rfl) | refine xc_block ?_ | refine block_normal ?_ | refine xc_ret ?_ | refine then_ret ?_ | refine block_ret ?_ | refine xc_skip ?_ | refine xc_exit ?_ | refine then_exit ?_ | refine loopS_exit ?_ | refine loopS_ret ?_ | refine cutB_ret ?_ | refine cutN_ret ?_ | refine cutN_exit ?_ | refine block_exit ?_ | (refine block_other ?_ ?_; exact rfl) | (refine xc_true ?_ ?_; exact rfl) | (refine xc_false ?_ ?_; exact rfl) | ((with_reducible apply xs_guard); exact rfl; exact rfl; intro c hc; (fail_if_success (have : true = c := hc)); (fail_if_success (have : false = c := hc)); cases c) | (refine xc_if rfl (fun hc => ?_) (fun hc => ?_)) | (refine xc_cond rfl (fun hc => ?_) (fun hc => ?_)))
    (with_reducible apply xs_call); exact rfl; exact rfl; exact setAll_ret tb xs F _ (hx7.only (hs.only0 rfl)) (by omega)
    rintro v w' ⟨hv, ho⟩; replace hs := hs.call0 ho
    obtain ⟨ada, cpa, rfl, _⟩ := id hv
    obtain ⟨RA, hs, hv⟩ := hv.read hs rfl
    repeat' (first | refine vs (k := ?_) | refine ps (k := ?_) | (refine st hs (k := ?_); intro w hs) | (refine stA hs (k := ?_); intro w hs) | (refine al hs (k := ?_); intro b w hz hs) | (refine bx hs (k := ?_); intro b w hz hs) | (refine bs hs (k := ?_); intro b w hz hs) | refine XS.nil ?_ | refine then_of ?_ | refine xc_seq ?_ | (refine xc_region ?_ ?_; exact rfl) | refine xc_block ?_ | refine block_normal ?_ | refine xc_ret ?_ | refine then_ret ?_ | refine block_ret ?_ | refine xc_skip ?_ | refine xc_exit ?_ | refine then_exit ?_ | refine loopS_exit ?_ | refine loopS_ret ?_ | refine cutB_ret ?_ | refine cutN_ret ?_ | refine cutN_exit ?_ | refine block_exit ?_ | (refine block_other ?_ ?_; exact rfl) | (refine xc_true ?_ ?_; exact rfl) | (refine xc_false ?_ ?_; exact rfl) | ((with_reducible apply xs_guard); exact rfl; exact rfl; intro c hc; (fail_if_success (have : true = c := hc)); (fail_if_success (have : false = c := hc)); cases c) | (refine xc_if rfl (fun hc => ?_) (fun hc => ?_)) | (refine xc_cond rfl (fun hc => ?_) (fun hc => ?_)))
    (with_reducible apply xs_call); exact rfl; exact rfl; exact equal_ret _ _ xs _ (by omega) _ (hv _ (fun e he => hs.ro e (by simp [he]))) (hC _ (fun e he => hs.ro e (by simp [he])))
    rintro v w' ⟨rfl, ho⟩; replace hs := hs.call0 ho
    rw [decide_eq_true hcx]
    repeat' (first | refine vs (k := ?_) | refine ps (k := ?_) | (refine st hs (k := ?_); intro w hs) | (refine stA hs (k := ?_); intro w hs) | (refine al hs (k := ?_); intro b w hz hs) | (refine bx hs (k := ?_); intro b w hz hs) | (refine bs hs (k := ?_); intro b w hz hs) | refine XS.nil ?_ | refine then_of ?_ | refine xc_seq ?_ | (refine xc_region ?_ ?_; exact rfl) | refine xc_block ?_ | refine block_normal ?_ | refine xc_ret ?_ | refine then_ret ?_ | refine block_ret ?_ | refine xc_skip ?_ | refine xc_exit ?_ | refine then_exit ?_ | refine loopS_exit ?_ | refine loopS_ret ?_ | refine cutB_ret ?_ | refine cutN_ret ?_ | refine cutN_exit ?_ | refine block_exit ?_ | (refine block_other ?_ ?_; exact rfl) | (refine xc_true ?_ ?_; exact rfl) | (refine xc_false ?_ ?_; exact rfl) | ((with_reducible apply xs_guard); exact rfl; exact rfl; intro c hc; (fail_if_success (have : true = c := hc)); (fail_if_success (have : false = c := hc)); cases c) | (refine xc_if rfl (fun hc => ?_) (fun hc => ?_)) | (refine xc_cond rfl (fun hc => ?_) (fun hc => ?_)))
    have hx8 := hx7.only (hs.only0 rfl)
    have o9 := o8.step (hs.only0 rfl) (by simp)
    clear hC hv
    refine xc_cutB (fun _ : Unit => [(4, .bool false), (6, .pointer (some ⟨tb, 0, none⟩))]) (fun _ w => Only [] w0 w ∧ ∃ F, Set6 w tb [] F) ?_ ?_
    · refine xc_loopS (fun (i : Nat) => [(4, .bool false), (6, .pointer (some ⟨tb, 0, none⟩)), (53, .slice ad l.length cap), (54, .int .i64 (l.length : Nat)), (55, .int .i64 (i : Nat))])
        (fun i w => i ≤ l.length ∧ Only [] w0 w ∧ ∃ zs F, Set6 w tb zs F ∧ New w0 F ∧ zs.length ≤ 300 ∧ ∀ z, z ∈ zs ↔ z ∈ l.drop i ∧ z ∉ l.take i ∨ False)
        (fun i => l.length - i) 0 (by (repeat (first | exact agree_nil | (apply agree_cons; exact rfl)))) ⟨Nat.zero_le _, o9, xs, F, hx8, hn, hxl, fun z => by simp [hm]⟩ fun i env w9 ⟨hi, o10, zs, F2, hz, hn2, hzl, hmz⟩ => ?_
      clear hs hx8 o9
      have hs := St.nil w9
      repeat' (first | refine vs (k := ?_) | refine ps (k := ?_) | (refine st hs (k := ?_); intro w hs) | (refine stA hs (k := ?_); intro w hs) | (refine al hs (k := ?_); intro b w hz hs) | (refine bx hs (k := ?_); intro b w hz hs) | (refine bs hs (k := ?_); intro b w hz hs) | refine XS.nil ?_ | refine then_of ?_ | refine xc_seq ?_ | (refine xc_region ?_ ?_; exact rfl) | refine xc_block ?_ | refine block_normal ?_ | refine xc_ret ?_ | refine then_ret ?_ | refine block_ret ?_ | refine xc_skip ?_ | refine xc_exit ?_ | refine then_exit ?_ | refine loopS_exit ?_ | refine loopS_ret ?_ | refine cutB_ret ?_ | refine cutN_ret ?_ | refine cutN_exit ?_ | refine block_exit ?_ | (refine block_other ?_ ?_; exact rfl) | (refine xc_true ?_ ?_; exact rfl) | (refine xc_false ?_ ?_; exact rfl) | ((with_reducible apply xs_guard); exact rfl; exact rfl; intro c hc; (fail_if_success (have : true = c := hc)); (fail_if_success (have : false = c := hc)); cases c) | (refine xc_if rfl (fun hc => ?_) (fun hc => ?_)) | (refine xc_cond rfl (fun hc => ?_) (fun hc => ?_)))
      · have hlt : i < l.length := by omega
        obtain ⟨b, off, cs, E, fz, rfl, hb, hcs⟩ := hD (fun h => by subst h; cases hlt)
        have g0 := hcs i _ (List.getElem?_eq_getElem hlt)
        have m0 : ∀ z, z ∈ l.take (i + 1) ↔ z = l[i] ∨ z ∈ l.take i := fun z => by
          rw [List.take_add_one, List.getElem?_eq_getElem hlt]
          simp only [Option.toList, List.mem_append, List.mem_singleton]
          exact Or.comm
        have m1 : ∀ z, z ∈ l.drop i ↔ z = l[i] ∨ z ∈ l.drop (i + 1) := fun z => by
          rw [List.drop_eq_getElem_cons hlt, List.mem_cons]
        generalize l[i] = x at *
        have ei : IntKind.i64.wrap ((i : Int) + 1) = ((i + 1 : Nat) : Int) := next64' hlt (by omega)
        refine ix (h0 := (by omega)) (h1 := (by omega)) (k := ?_)
        refine lh (o10.block hb (by simp)) (v := .int .i64 x) (show cs[off + ((i : Nat) : Int).toNat * 1]? = some (.int .i64 x) by simpa using g0) (k := ?_)
        repeat' (first | refine vs (k := ?_) | refine ps (k := ?_) | (refine st hs (k := ?_); intro w hs) | (refine stA hs (k := ?_); intro w hs) | (refine al hs (k := ?_); intro b w hz hs) | (refine bx hs (k := ?_); intro b w hz hs) | (refine bs hs (k := ?_); intro b w hz hs) | refine XS.nil ?_ | refine then_of ?_ | refine xc_seq ?_ | (refine xc_region ?_ ?_; exact rfl) | refine xc_block ?_ | refine block_normal ?_ | refine xc_ret ?_ | refine then_ret ?_ | refine block_ret ?_ | refine xc_skip ?_ | refine xc_exit ?_ | refine then_exit ?_ | refine loopS_exit ?_ | refine loopS_ret ?_ | refine cutB_ret ?_ | refine cutN_ret ?_ | refine cutN_exit ?_ | refine block_exit ?_ | (refine block_other ?_ ?_; exact rfl) | (refine xc_true ?_ ?_; exact rfl) | (refine xc_false ?_ ?_; exact rfl) | ((with_reducible apply xs_guard); exact rfl; exact rfl; intro c hc; (fail_if_success (have : true = c := hc)); (fail_if_success (have : false = c := hc)); cases c) | (refine xc_if rfl (fun hc => ?_) (fun hc => ?_)) | (refine xc_cond rfl (fun hc => ?_) (fun hc => ?_)))
        have ho3 := hs.only0 rfl
        (with_reducible apply xs_call); exact rfl; exact rfl; exact setDelete_ret tb zs F2 x _ (hz.only ho3) (by omega)
        rintro v w10 ⟨rfl, F3, k1, k2, k3⟩
        have o11 := o10.step ho3 (by simp)
        have n3 := hn2.step o11 k2
        have o12 := o11.news hn2 k3
        have hzl2 : (RB.sans x zs).length ≤ 300 := by have := sans_le x zs; omega
        have hmz2 : ∀ z, z ∈ RB.sans x zs ↔ z ∈ l.drop (i + 1) ∧ z ∉ l.take (i + 1) ∨ False := fun z => by
          rw [mem_sans, hmz, m0, m1]
          simp only [or_false, not_or]
          constructor
          · rintro ⟨⟨h1 | h1, h2⟩, h3⟩
            · exact absurd h1 h3
            · exact ⟨h1, h3, h2⟩
          · rintro ⟨h1, h2, h3⟩
            exact ⟨⟨.inr h1, h3⟩, h2⟩
        have hxn : decide (x ∈ RB.sans x zs) = false := decide_eq_false (fun h => ((mem_sans x x zs).1 h).2 rfl)
        generalize RB.sans x zs = us at *
        clear hs
        have hs := St.nil w10
        repeat' (first | refine vs (k := ?_) | refine ps (k := ?_) | (refine st hs (k := ?_); intro w hs) | (refine stA hs (k := ?_); intro w hs) | (refine al hs (k := ?_); intro b w hz hs) | (refine bx hs (k := ?_); intro b w hz hs) | (refine bs hs (k := ?_); intro b w hz hs) | refine XS.nil ?_ | refine then_of ?_ | refine xc_seq ?_ | (refine xc_region ?_ ?_; exact rfl) | refine xc_block ?_ | refine block_normal ?_ | refine xc_ret ?_ | refine then_ret ?_ | refine block_ret ?_ | refine xc_skip ?_ | refine xc_exit ?_ | refine then_exit ?_ | refine loopS_exit ?_ | refine loopS_ret ?_ | refine cutB_ret ?_ | refine cutN_ret ?_ | refine cutN_exit ?_ | refine block_exit ?_ | (refine block_other ?_ ?_; exact rfl) | (refine xc_true ?_ ?_; exact rfl) | (refine xc_false ?_ ?_; exact rfl) | ((with_reducible apply xs_guard); exact rfl; exact rfl; intro c hc; (fail_if_success (have : true = c := hc)); (fail_if_success (have : false = c := hc)); cases c) | (refine xc_if rfl (fun hc => ?_) (fun hc => ?_)) | (refine xc_cond rfl (fun hc => ?_) (fun hc => ?_)))
        refine dr [] hs (k := ?_); intro hX w hs
        refine tk 0 hX (k := ?_)
        refine tk 1 hX (k := ?_)
        refine dt 2 hX (k := ?_)
        (with_reducible apply xs_call); exact rfl; exact rfl; exact setHas_ret tb us F3 x _ (k1.only (hs.only0 rfl))
        rintro v w' ⟨rfl, ho⟩; replace hs := hs.call0 ho
        rw [hxn]
        repeat' (first | refine vs (k := ?_) | refine ps (k := ?_) | (refine st hs (k := ?_); intro w hs) | (refine stA hs (k := ?_); intro w hs) | (refine al hs (k := ?_); intro b w hz hs) | (refine bx hs (k := ?_); intro b w hz hs) | (refine bs hs (k := ?_); intro b w hz hs) | refine XS.nil ?_ | refine then_of ?_ | refine xc_seq ?_ | (refine xc_region ?_ ?_; exact rfl) | refine xc_block ?_ | refine block_normal ?_ | refine xc_ret ?_ | refine then_ret ?_ | refine block_ret ?_ | refine xc_skip ?_ | refine xc_exit ?_ | refine then_exit ?_ | refine loopS_exit ?_ | refine loopS_ret ?_ | refine cutB_ret ?_ | refine cutN_ret ?_ | refine cutN_exit ?_ | refine block_exit ?_ | (refine block_other ?_ ?_; exact rfl) | (refine xc_true ?_ ?_; exact rfl) | (refine xc_false ?_ ?_; exact rfl) | ((with_reducible apply xs_guard); exact rfl; exact rfl; intro c hc; (fail_if_success (have : true = c := hc)); (fail_if_success (have : false = c := hc)); cases c) | (refine xc_if rfl (fun hc => ?_) (fun hc => ?_)) | (refine xc_cond rfl (fun hc => ?_) (fun hc => ?_)))
        refine dn (k := ?_)
        refine tk 3 hX (k := ?_)
        refine tk 4 hX (k := ?_)
        refine tk 9 hX (k := ?_)
        refine dt 5 hX (k := ?_)
        (with_reducible apply xs_call); exact rfl; exact rfl; exact setDepth_ret tb us F3 _ (k1.only (hs.only0 rfl)) (by omega)
        rintro v w' ⟨⟨d, rfl, hd, hd2, _⟩, ho⟩; replace hs := hs.call0 ho
        have e1 : IntKind.i64.wrap ((d : Int) + 1) = ((d + 1 : Nat) : Int) := by rw [i64_small (by omega) (by omega)]; omega
        have hd9 := pow_small hd (by omega)
        repeat' (first | refine vs (k := ?_) | refine ps (k := ?_) | (refine st hs (k := ?_); intro w hs) | (refine stA hs (k := ?_); intro w hs) | (refine al hs (k := ?_); intro b w hz hs) | (refine bx hs (k := ?_); intro b w hz hs) | (refine bs hs (k := ?_); intro b w hz hs) | refine XS.nil ?_ | refine then_of ?_ | refine xc_seq ?_ | (refine xc_region ?_ ?_; exact rfl) | refine xc_block ?_ | refine block_normal ?_ | refine xc_ret ?_ | refine then_ret ?_ | refine block_ret ?_ | refine xc_skip ?_ | refine xc_exit ?_ | refine then_exit ?_ | refine loopS_exit ?_ | refine loopS_ret ?_ | refine cutB_ret ?_ | refine cutN_ret ?_ | refine cutN_exit ?_ | refine block_exit ?_ | (refine block_other ?_ ?_; exact rfl) | (refine xc_true ?_ ?_; exact rfl) | (refine xc_false ?_ ?_; exact rfl) | ((with_reducible apply xs_guard); exact rfl; exact rfl; intro c hc; (fail_if_success (have : true = c := hc)); (fail_if_success (have : false = c := hc)); cases c) | (refine xc_if rfl (fun hc => ?_) (fun hc => ?_)) | (refine xc_cond rfl (fun hc => ?_) (fun hc => ?_)))
        refine dn (k := ?_)
        refine tk 6 hX (k := ?_)
        rw [e1]
        refine tk 7 hX (k := ?_)
        refine tk 8 hX (hr := fun _ _ => r_shlS ((d + 1) / 2) rfl rfl (by omega) (by show (d + 1) / 2 ≤ 64; omega)) (k := ?_)
        refine dt 10 hX (k := ?_)
        (with_reducible apply xs_call); exact rfl; exact rfl; exact setLen_ret tb us F3 _ (k1.only (hs.only0 rfl))
        rintro v w' ⟨rfl, ho⟩; replace hs := hs.call0 ho; repeat' (first | refine vs (k := ?_) | refine ps (k := ?_) | (refine st hs (k := ?_); intro w hs) | (refine stA hs (k := ?_); intro w hs) | (refine al hs (k := ?_); intro b w hz hs) | (refine bx hs (k := ?_); intro b w hz hs) | (refine bs hs (k := ?_); intro b w hz hs) | refine XS.nil ?_ | refine then_of ?_ | refine xc_seq ?_ | (refine xc_region ?_ ?_; exact rfl) | refine xc_block ?_ | refine block_normal ?_ | refine xc_ret ?_ | refine then_ret ?_ | refine block_ret ?_ | refine xc_skip ?_ | refine xc_exit ?_ | refine then_exit ?_ | refine loopS_exit ?_ | refine loopS_ret ?_ | refine cutB_ret ?_ | refine cutN_ret ?_ | refine cutN_exit ?_ | refine block_exit ?_ | (refine block_other ?_ ?_; exact rfl) | (refine xc_true ?_ ?_; exact rfl) | (refine xc_false ?_ ?_; exact rfl) | ((with_reducible apply xs_guard); exact rfl; exact rfl; intro c hc; (fail_if_success (have : true = c := hc)); (fail_if_success (have : false = c := hc)); cases c) | (refine xc_if rfl (fun hc => ?_) (fun hc => ?_)) | (refine xc_cond rfl (fun hc => ?_) (fun hc => ?_)))
        refine dn (k := ?_)
        refine tk 11 hX (k := ?_)
        refine tk 12 hX (k := ?_)
        refine xa_set 74 (v := .bool false) (congrArg Value.bool (depth_test hd (by omega))) ?_
        refine tk 13 hX (k := ?_)
        refine tk 14 hX (k := ?_)
        refine tk 15 hX (k := ?_)
        refine dt 16 hX (k := ?_)
        (with_reducible apply xs_call); exact rfl; exact rfl; exact setAll_ret tb us F3 _ (k1.only (hs.only0 rfl)) (by omega)
        rintro v w' ⟨hv, ho⟩; replace hs := hs.call0 ho
        repeat' (first | refine vs (k := ?_) | refine ps (k := ?_) | (refine st hs (k := ?_); intro w hs) | (refine stA hs (k := ?_); intro w hs) | (refine al hs (k := ?_); intro b w hz hs) | (refine bx hs (k := ?_); intro b w hz hs) | (refine bs hs (k := ?_); intro b w hz hs) | refine XS.nil ?_ | refine then_of ?_ | refine xc_seq ?_ | (refine xc_region ?_ ?_; exact rfl) | refine xc_block ?_ | refine block_normal ?_ | refine xc_ret ?_ | refine then_ret ?_ | refine block_ret ?_ | refine xc_skip ?_ | refine xc_exit ?_ | refine then_exit ?_ | refine loopS_exit ?_ | refine loopS_ret ?_ | refine cutB_ret ?_ | refine cutN_ret ?_ | refine cutN_exit ?_ | refine block_exit ?_ | (refine block_other ?_ ?_; exact rfl) | (refine xc_true ?_ ?_; exact rfl) | (refine xc_false ?_ ?_; exact rfl) | ((with_reducible apply xs_guard); exact rfl; exact rfl; intro c hc; (fail_if_success (have : true = c := hc)); (fail_if_success (have : false = c := hc)); cases c) | (refine xc_if rfl (fun hc => ?_) (fun hc => ?_)) | (refine xc_cond rfl (fun hc => ?_) (fun hc => ?_)))
        refine dn (k := ?_)
        refine dt 17 hX (k := ?_)
        (with_reducible apply xs_call); exact rfl; exact rfl; exact isSorted_ret _ us (by omega) k1.srt _ hv
        rintro v w' ⟨rfl, ho⟩; replace hs := hs.call0 ho; repeat' (first | refine vs (k := ?_) | refine ps (k := ?_) | (refine st hs (k := ?_); intro w hs) | (refine stA hs (k := ?_); intro w hs) | (refine al hs (k := ?_); intro b w hz hs) | (refine bx hs (k := ?_); intro b w hz hs) | (refine bs hs (k := ?_); intro b w hz hs) | refine XS.nil ?_ | refine then_of ?_ | refine xc_seq ?_ | (refine xc_region ?_ ?_; exact rfl) | refine xc_block ?_ | refine block_normal ?_ | refine xc_ret ?_ | refine then_ret ?_ | refine block_ret ?_ | refine xc_skip ?_ | refine xc_exit ?_ | refine then_exit ?_ | refine loopS_exit ?_ | refine loopS_ret ?_ | refine cutB_ret ?_ | refine cutN_ret ?_ | refine cutN_exit ?_ | refine block_exit ?_ | (refine block_other ?_ ?_; exact rfl) | (refine xc_true ?_ ?_; exact rfl) | (refine xc_false ?_ ?_; exact rfl) | ((with_reducible apply xs_guard); exact rfl; exact rfl; intro c hc; (fail_if_success (have : true = c := hc)); (fail_if_success (have : false = c := hc)); cases c) | (refine xc_if rfl (fun hc => ?_) (fun hc => ?_)) | (refine xc_cond rfl (fun hc => ?_) (fun hc => ?_)))
        refine dn (k := ?_)
        refine tk 18 hX (k := ?_)
        refine tk 19 hX (k := ?_)
        refine en (k := ?_)
        repeat' (first | refine vs (k := ?_) | refine ps (k := ?_) | (refine st hs (k := ?_); intro w hs) | (refine stA hs (k := ?_); intro w hs) | (refine al hs (k := ?_); intro b w hz hs) | (refine bx hs (k := ?_); intro b w hz hs) | (refine bs hs (k := ?_); intro b w hz hs) | refine XS.nil ?_ | refine then_of ?_ | refine xc_seq ?_ | (refine xc_region ?_ ?_; exact rfl) | refine xc_block ?_ | refine block_normal ?_ | refine xc_ret ?_ | refine then_ret ?_ | refine block_ret ?_ | refine xc_skip ?_ | refine xc_exit ?_ | refine then_exit ?_ | refine loopS_exit ?_ | refine loopS_ret ?_ | refine cutB_ret ?_ | refine cutN_ret ?_ | refine cutN_exit ?_ | refine block_exit ?_ | (refine block_other ?_ ?_; exact rfl) | (refine xc_true ?_ ?_; exact rfl) | (refine xc_false ?_ ?_; exact rfl) | ((with_reducible apply xs_guard); exact rfl; exact rfl; intro c hc; (fail_if_success (have : true = c := hc)); (fail_if_success (have : false = c := hc)); cases c) | (refine xc_if rfl (fun hc => ?_) (fun hc => ?_)) | (refine xc_cond rfl (fun hc => ?_) (fun hc => ?_)))
        exact loopS_next (i + 1) (by omega) (by (repeat (first | exact agree_nil | (apply agree_cons; first | exact rfl | exact congrArg (Value.int .i64) ei)))) ⟨by omega, o12.step (hs.only0 rfl) (by simp), us, F3, k1.only (hs.only0 rfl), n3, hzl2, hmz2⟩
      · have e : l.drop i = [] := List.drop_eq_nil_iff.2 (by omega)
        have ez : zs = [] := List.eq_nil_iff_forall_not_mem.2 fun z hz => by
          have := (hmz z).1 hz
          rw [e] at this
          simp at this
        subst ez
        exact cutB_exit () (by (repeat (first | exact agree_nil | (apply agree_cons; exact rfl)))) ⟨o10.step (hs.only0 rfl) (by simp), F2, hz.only (hs.only0 rfl)⟩
    clear hs hx8 o9
    rintro _ env w11 ⟨o13, F4, hz⟩
    have hs := St.nil w11
    repeat' (first | refine vs (k := ?_) | refine ps (k := ?_) | (refine st hs (k := ?_); intro w hs) | (refine stA hs (k := ?_); intro w hs) | (refine al hs (k := ?_); intro b w hz hs) | (refine bx hs (k := ?_); intro b w hz hs) | (refine bs hs (k := ?_); intro b w hz hs) | refine XS.nil ?_ | refine then_of ?_ | refine xc_seq ?_ | (refine xc_region ?_ ?_; exact rfl) | refine xc_block ?_ | refine block_normal ?_ | refine xc_ret ?_ | refine then_ret ?_ | refine block_ret ?_ | refine xc_skip ?_ | refine xc_exit ?_ | refine then_exit ?_ | refine loopS_exit ?_ | refine loopS_ret ?_ | refine cutB_ret ?_ | refine cutN_ret ?_ | refine cutN_exit ?_ | refine block_exit ?_ | (refine block_other ?_ ?_; exact rfl) | (refine xc_true ?_ ?_; exact rfl) | (refine xc_false ?_ ?_; exact rfl) | ((with_reducible apply xs_guard); exact rfl; exact rfl; intro c hc; (fail_if_success (have : true = c := hc)); (fail_if_success (have : false = c := hc)); cases c) | (refine xc_if rfl (fun hc => ?_) (fun hc => ?_)) | (refine xc_cond rfl (fun hc => ?_) (fun hc => ?_)))
    (with_reducible apply xs_call); exact rfl; exact rfl; exact setLen_ret tb [] F4 _ (hz.only (hs.only0 rfl))
    rintro v w' ⟨rfl, ho⟩; replace hs := hs.call0 ho; repeat' (first | refine vs (k := ?_) | refine ps (k := ?_) | (refine st hs (k := ?_); intro w hs) | (refine stA hs (k := ?_); intro w hs) | (refine al hs (k := ?_); intro b w hz hs) | (refine bx hs (k := ?_); intro b w hz hs) | (refine bs hs (k := ?_); intro b w hz hs) | refine XS.nil ?_ | refine then_of ?_ | refine xc_seq ?_ | (refine xc_region ?_ ?_; exact rfl) | refine xc_block ?_ | refine block_normal ?_ | refine xc_ret ?_ | refine then_ret ?_ | refine block_ret ?_ | refine xc_skip ?_ | refine xc_exit ?_ | refine then_exit ?_ | refine loopS_exit ?_ | refine loopS_ret ?_ | refine cutB_ret ?_ | refine cutN_ret ?_ | refine cutN_exit ?_ | refine block_exit ?_ | (refine block_other ?_ ?_; exact rfl) | (refine xc_true ?_ ?_; exact rfl) | (refine xc_false ?_ ?_; exact rfl) | ((with_reducible apply xs_guard); exact rfl; exact rfl; intro c hc; (fail_if_success (have : true = c := hc)); (fail_if_success (have : false = c := hc)); cases c) | (refine xc_if rfl (fun hc => ?_) (fun hc => ?_)) | (refine xc_cond rfl (fun hc => ?_) (fun hc => ?_)))
    (with_reducible apply xs_call); exact rfl; exact rfl; exact setDepth_ret tb [] F4 _ (hz.only (hs.only0 rfl)) (by decide)
    rintro v w' ⟨⟨d, rfl, _, _, hd0⟩, ho⟩; replace hs := hs.call0 ho
    rw [hd0 rfl]
    repeat' (first | refine vs (k := ?_) | refine ps (k := ?_) | (refine st hs (k := ?_); intro w hs) | (refine stA hs (k := ?_); intro w hs) | (refine al hs (k := ?_); intro b w hz hs) | (refine bx hs (k := ?_); intro b w hz hs) | (refine bs hs (k := ?_); intro b w hz hs) | refine XS.nil ?_ | refine then_of ?_ | refine xc_seq ?_ | (refine xc_region ?_ ?_; exact rfl) | refine xc_block ?_ | refine block_normal ?_ | refine xc_ret ?_ | refine then_ret ?_ | refine block_ret ?_ | refine xc_skip ?_ | refine xc_exit ?_ | refine then_exit ?_ | refine loopS_exit ?_ | refine loopS_ret ?_ | refine cutB_ret ?_ | refine cutN_ret ?_ | refine cutN_exit ?_ | refine block_exit ?_ | (refine block_other ?_ ?_; exact rfl) | (refine xc_true ?_ ?_; exact rfl) | (refine xc_false ?_ ?_; exact rfl) | ((with_reducible apply xs_guard); exact rfl; exact rfl; intro c hc; (fail_if_success (have : true = c := hc)); (fail_if_success (have : false = c := hc)); cases c) | (refine xc_if rfl (fun hc => ?_) (fun hc => ?_)) | (refine xc_cond rfl (fun hc => ?_) (fun hc => ?_)))
    first | refine rt (hq := ?_) | refine rt' (hq := ?_)
    exact ⟨rfl, o13.step (hs.only0 rfl) (by simp)⟩
end Go.Proofs.YtjooegonmdmajaaX
