/- Layer 6: the document's lists: Has, Below, Delete, Insert. -/
import Derived.Test.YtjooegonmdmajaaRb16
set_option linter.unusedVariables false
set_option linter.unusedSimpArgs false
set_option maxRecDepth 100000
namespace Go.Proofs.YtjooegonmdmajaaX
open Go Go.RowKit
attribute [local irreducible] XS XC XA thenE blockE retE loopE loopS cutB cutN doneE SE
theorem refHas_ret (sl : Value) (l : List Int) (x : Int) (hm : l.length ≤ 1000000) (w0 : World) (hL : DAt w0 sl l) : Ret Try.prog 89 #[sl, .int .i64 x] w0 fun v w' => v = .bool (decide (x ∈ l)) ∧ Only [] w0 w' := by
  obtain ⟨ad, cap, rfl, hD⟩ := hL
  have hs := St.nil w0
  refine ret_of_xc Try.func89 (by kernel_rfl) rfl Try.ntmps89 rfl rfl rfl ?_
  repeat' (first | refine vs (k := ?_) | refine ps (k := ?_) | (refine st hs (k := ?_); intro w hs) | (refine stA hs (k := ?_); intro w hs) | (refine al hs (k := ?_); intro b w hz hs) | (refine bx hs (k := ?_); intro b w hz hs) | (refine bs hs (k := ?_); intro b w hz hs) | refine XS.nil ?_ | refine then_of ?_ | refine xc_seq ?_ | (refine xc_region ?_ ?_; exact rfl) | refine xc_block ?_ | refine block_normal ?_ | refine xc_ret ?_ | refine then_ret ?_ | refine block_ret ?_ | refine xc_skip ?_ | refine xc_exit ?_ | refine then_exit ?_ | refine loopS_exit ?_ | refine loopS_ret ?_ | refine cutB_ret ?_ | refine cutN_ret ?_ | refine cutN_exit ?_ | refine block_exit ?_ | (refine block_other ?_ ?_; exact rfl) | (refine xc_true ?_ ?_; exact rfl) | (refine xc_false ?_ ?_; exact rfl) | ((with_reducible apply xs_guard); exact rfl; exact rfl; intro c hc; (fail_if_success (have : true = c := hc)); (fail_if_success (have : false = c := hc)); cases c) | (refine xc_if rfl (fun hc => ?_) (fun hc => ?_)) | (refine xc_cond rfl (fun hc => ?_) (fun hc => ?_)))
  refine xc_cutB (fun _ : Unit => []) (fun _ w => x ∉ l ∧ Only [] w0 w) ?_ ?_
  · refine xc_loopS (fun (i : Nat) => [(1, .int .i64 x), (7, .slice ad l.length cap), (8, .int .i64 (l.length : Nat)), (9, .int .i64 (i : Nat))])
      (fun i w => i ≤ l.length ∧ x ∉ l.take i ∧ Only [] w0 w) (fun i => l.length - i) 0 (by (repeat (first | exact agree_nil | (apply agree_cons; exact rfl)))) ⟨Nat.zero_le _, by simp, hs.only0 rfl⟩ fun i env w ⟨hi, hn, ho⟩ => ?_
    clear hs
    have hs := St.nil w
    repeat' (first | refine vs (k := ?_) | refine ps (k := ?_) | (refine st hs (k := ?_); intro w hs) | (refine stA hs (k := ?_); intro w hs) | (refine al hs (k := ?_); intro b w hz hs) | (refine bx hs (k := ?_); intro b w hz hs) | (refine bs hs (k := ?_); intro b w hz hs) | refine XS.nil ?_ | refine then_of ?_ | refine xc_seq ?_ | (refine xc_region ?_ ?_; exact rfl) | refine xc_block ?_ | refine block_normal ?_ | refine xc_ret ?_ | refine then_ret ?_ | refine block_ret ?_ | refine xc_skip ?_ | refine xc_exit ?_ | refine then_exit ?_ | refine loopS_exit ?_ | refine loopS_ret ?_ | refine cutB_ret ?_ | refine cutN_ret ?_ | refine cutN_exit ?_ | refine block_exit ?_ | (refine block_other ?_ ?_; exact rfl) | (refine xc_true ?_ ?_; exact rfl) | (refine xc_false ?_ ?_; exact rfl) | ((with_reducible apply xs_guard); exact rfl; exact rfl; intro c hc; (fail_if_success (have : true = c := hc)); (fail_if_success (have : false = c := hc)); cases c) | (refine xc_if rfl (fun hc => ?_) (fun hc => ?_)) | (refine xc_cond rfl (fun hc => ?_) (fun hc => ?_)))
    · have hlt : i < l.length := by omega
      obtain ⟨b, off, cs, fz, rfl, hcap, hb, hcs⟩ := hD (fun h => by subst h; cases hlt)
      have g0 := hcs i _ (List.getElem?_eq_getElem hlt)
      have ht := List.take_add_one (l := l) (i := i)
      rw [List.getElem?_eq_getElem hlt] at ht
      have hmem : l[i] ∈ l := List.getElem_mem hlt
      generalize l[i] = y at *
      have ei : IntKind.i64.wrap ((i : Int) + 1) = ((i + 1 : Nat) : Int) := next64' hlt (by omega)
      refine ix (h0 := (by omega)) (h1 := (by omega)) (k := ?_)
      refine lh (ho.block hb (by simp)) (v := .int .i64 y) (show cs[off + ((i : Nat) : Int).toNat * 1]? = some (.int .i64 y) by simpa using g0) (k := ?_)
      repeat' (first | refine vs (k := ?_) | refine ps (k := ?_) | (refine st hs (k := ?_); intro w hs) | (refine stA hs (k := ?_); intro w hs) | (refine al hs (k := ?_); intro b w hz hs) | (refine bx hs (k := ?_); intro b w hz hs) | (refine bs hs (k := ?_); intro b w hz hs) | refine XS.nil ?_ | refine then_of ?_ | refine xc_seq ?_ | (refine xc_region ?_ ?_; exact rfl) | refine xc_block ?_ | refine block_normal ?_ | refine xc_ret ?_ | refine then_ret ?_ | refine block_ret ?_ | refine xc_skip ?_ | refine xc_exit ?_ | refine then_exit ?_ | refine loopS_exit ?_ | refine loopS_ret ?_ | refine cutB_ret ?_ | refine cutN_ret ?_ | refine cutN_exit ?_ | refine block_exit ?_ | (refine block_other ?_ ?_; exact rfl) | (refine xc_true ?_ ?_; exact rfl) | (refine xc_false ?_ ?_; exact rfl) | ((with_reducible apply xs_guard); exact rfl; exact rfl; intro c hc; (fail_if_success (have : true = c := hc)); (fail_if_success (have : false = c := hc)); cases c) | (refine xc_if rfl (fun hc => ?_) (fun hc => ?_)) | (refine xc_cond rfl (fun hc => ?_) (fun hc => ?_)))
      · first | refine rt (hq := ?_) | refine rt' (hq := ?_)
        have e : y = x := by simpa using hc
        subst e
        exact ⟨congrArg Value.bool (decide_eq_true hmem).symm, ho.step (hs.only0 rfl) (by simp)⟩
      · have e : y ≠ x := by simpa using hc
        refine loopS_next (i + 1) (by omega) (by (repeat (first | exact agree_nil | (apply agree_cons; first | exact rfl | exact congrArg (Value.int .i64) ei)))) ⟨by omega, ?_, ho.step (hs.only0 rfl) (by simp)⟩
        rw [ht]
        simp only [Option.toList, List.mem_append, List.mem_singleton, not_or]
        exact ⟨hn, fun h => e h.symm⟩
    · have e : l.take i = l := List.take_of_length_le (by omega)
      rw [e] at hn
      exact cutB_exit () (by (repeat (first | exact agree_nil | (apply agree_cons; exact rfl)))) ⟨hn, ho.step (hs.only0 rfl) (by simp)⟩
  · clear hs
    rintro _ env w ⟨hn, ho⟩
    have hs := St.nil w
    repeat' (first | refine vs (k := ?_) | refine ps (k := ?_) | (refine st hs (k := ?_); intro w hs) | (refine stA hs (k := ?_); intro w hs) | (refine al hs (k := ?_); intro b w hz hs) | (refine bx hs (k := ?_); intro b w hz hs) | (refine bs hs (k := ?_); intro b w hz hs) | refine XS.nil ?_ | refine then_of ?_ | refine xc_seq ?_ | (refine xc_region ?_ ?_; exact rfl) | refine xc_block ?_ | refine block_normal ?_ | refine xc_ret ?_ | refine then_ret ?_ | refine block_ret ?_ | refine xc_skip ?_ | refine xc_exit ?_ | refine then_exit ?_ | refine loopS_exit ?_ | refine loopS_ret ?_ | refine cutB_ret ?_ | refine cutN_ret ?_ | refine cutN_exit ?_ | refine block_exit ?_ | (refine block_other ?_ ?_; exact rfl) | (refine xc_true ?_ ?_; exact rfl) | (refine xc_false ?_ ?_; exact rfl) | ((with_reducible apply xs_guard); exact rfl; exact rfl; intro c hc; (fail_if_success (have : true = c := hc)); (fail_if_success (have : false = c := hc)); cases c) | (refine xc_if rfl (fun hc => ?_) (fun hc => ?_)) | (refine xc_cond rfl (fun hc => ?_) (fun hc => ?_)))
    first | refine rt (hq := ?_) | refine rt' (hq := ?_)
    exact ⟨congrArg Value.bool (decide_eq_false hn).symm, ho.step (hs.only0 rfl) (by simp)⟩
/-- A slice of one's own on its way. -/
structure Acc (w0 : World) (v : Value) (xs : List Int) (w : World) : Prop where
  o : Only [] w0 w
  s : ∃ G, SlV w 3 1 v xs.length (ints xs) G ∧ New w0 G
theorem Acc.only {w0 w w' : World} {v : Value} {xs : List Int} (h : Acc w0 v xs w) (ho : Only [] w w') : Acc w0 v xs w' := by
  obtain ⟨o, G, h1, h2⟩ := h
  exact ⟨o.step ho (by simp), G, h1.keep ho (by simp), h2⟩
theorem Acc.nil (w : World) : Acc w (.slice none 0 0) [] w := ⟨Only.refl _ _, [], .inl ⟨rfl, rfl, rfl, rfl⟩, fun k h => by cases h⟩
theorem Acc.dat {w0 w : World} {v : Value} {xs : List Int} (h : Acc w0 v xs w) : DAt w v xs := by obtain ⟨_, G, h, _⟩ := h; exact h.dat
section
variable {ops : Array Oper} {QE : Exit → Env → World → Prop} {n : Nat} {rest : List Oper} {env : Env} {w w0 : World} {d : Option Nat} {ty : Nat} {pos : String} {aft : Array Edge} {g : Option (Nat × Bool)}
/-- append(own, number). -/
theorem apN {t b m : Nat} {x y : Operand} {v : Value} {xs : List Int} {z : Int} (hA : Acc w0 v xs w) (hb : w.heap[b]? = some (.cells #[.int .i64 z] 3 (0, 0))) (hlen : xs.length < 1000000) (hw : wantedE ops env g = true := by exact rfl) (hsl : look t tab.sls = some (3, 1, 8) := by exact rfl)
    (hx : ev env x = v := by exact rfl) (hy : ev env y = .slice (some ⟨b, 0, none⟩) 1 m := by exact rfl) (k : ∀ v' w', Acc w0 v' (xs ++ [z]) w' → XS Try.prog ops QE n rest (updO env d v') w') :
    XS Try.prog ops QE n (⟨d, .call { callee := .builtin .append, args := #[x, y], argTypes := #[t, t] }, ty, pos, aft, g⟩ :: rest) env w := by
  obtain ⟨o, G, h1, h2⟩ := hA
  refine xs_appendW tabOk hw hsl (zs := [.int .i64 0]) rfl rfl hx hy rfl (by decide) (lit_cells (news := [.int .i64 z]) hb) (by simp [Value.oneCell']) h1 (by omega) (by omega) ?_
  intro v' w' ⟨G', h3, h4⟩ ho
  exact k v' w' ⟨o.news h2 ho, G', SlV.app (w' := w') h3, h2.step o h4⟩
end
set_option maxHeartbeats 1000000 in
theorem refBelow_ret (sl : Value) (l : List Int) (x : Int) (hm : l.length ≤ 1000000) (w0 : World) (hL : DAt w0 sl l) : Ret Try.prog 91 #[sl, .int .i64 x] w0 fun v w' => DAt w' v (l.filter (fun z => decide (z < x))) ∧ Only [] w0 w' := by
  have hL0 := hL
  obtain ⟨ad, cap, rfl, hD⟩ := hL
  have hs := St.nil w0
  refine ret_of_xc Try.func91 (by kernel_rfl) rfl Try.ntmps91 rfl rfl rfl ?_
  repeat' (first | refine vs (k := ?_) | refine ps (k := ?_) | (refine st hs (k := ?_); intro w hs) | (refine stA hs (k := ?_); intro w hs) | (refine al hs (k := ?_); intro b w hz hs) | (refine bx hs (k := ?_); intro b w hz hs) | (refine bs hs (k := ?_); intro b w hz hs) | refine XS.nil ?_ | refine then_of ?_ | refine xc_seq ?_ | (refine xc_region ?_ ?_; exact rfl) | refine xc_block ?_ | refine block_normal ?_ | refine xc_ret ?_ | refine then_ret ?_ | refine block_ret ?_ | refine xc_skip ?_ | refine xc_exit ?_ | refine then_exit ?_ | refine loopS_exit ?_ | refine loopS_ret ?_ | refine cutB_ret ?_ | refine cutN_ret ?_ | refine cutN_exit ?_ | refine block_exit ?_ | (refine block_other ?_ ?_; exact rfl) | (refine xc_true ?_ ?_; exact rfl) | (refine xc_false ?_ ?_; exact rfl) | ((with_reducible apply xs_guard); exact rfl; exact rfl; intro c hc; (fail_if_success (have : true = c := hc)); (fail_if_success (have : false = c := hc)); cases c) | (refine xc_if rfl (fun hc => ?_) (fun hc => ?_)) | (refine xc_cond rfl (fun hc => ?_) (fun hc => ?_)))
  refine xc_cutB (fun (v : Value) => [(0, .slice ad l.length cap), (1, .int .i64 x), (5, v)]) (fun v w => Acc w0 v ((l).filter (fun z => decide (z < x))) w) ?_ ?_
  · refine xc_loopS (fun (s : Nat × Value) => [(0, .slice ad l.length cap), (1, .int .i64 x), (5, s.2), (8, .slice ad l.length cap), (9, .int .i64 (l.length : Nat)), (10, .int .i64 (s.1 : Nat))])
      (fun s w => s.1 ≤ l.length ∧ Acc w0 s.2 ((l.take s.1).filter (fun z => decide (z < x))) w) (fun s => l.length - s.1) (0, .slice none 0 0) (by (repeat (first | exact agree_nil | (apply agree_cons; exact rfl)))) ⟨Nat.zero_le _, (Acc.nil w0).only (hs.only0 rfl)⟩ fun s env w ⟨hi, hA⟩ => ?_
    clear hs
    obtain ⟨i, va⟩ := s
    dsimp only at hi hA ⊢
    have hs := St.nil w
    repeat' (first | refine vs (k := ?_) | refine ps (k := ?_) | (refine st hs (k := ?_); intro w hs) | (refine stA hs (k := ?_); intro w hs) | (refine al hs (k := ?_); intro b w hz hs) | (refine bx hs (k := ?_); intro b w hz hs) | (refine bs hs (k := ?_); intro b w hz hs) | refine XS.nil ?_ | refine then_of ?_ | refine xc_seq ?_ | (refine xc_region ?_ ?_; exact rfl) | refine xc_block ?_ | refine block_normal ?_ | refine xc_ret ?_ | refine then_ret ?_ | refine block_ret ?_ | refine xc_skip ?_ | refine xc_exit ?_ | refine then_exit ?_ | refine loopS_exit ?_ | refine loopS_ret ?_ | refine cutB_ret ?_ | refine cutN_ret ?_ | refine cutN_exit ?_ | refine block_exit ?_ | (refine block_other ?_ ?_; exact rfl) | (refine xc_true ?_ ?_; exact rfl) | (refine xc_false ?_ ?_; exact rfl) | ((with_reducible apply xs_guard); exact rfl; exact rfl; intro c hc; (fail_if_success (have : true = c := hc)); (fail_if_success (have : false = c := hc)); cases c) | (refine xc_if rfl (fun hc => ?_) (fun hc => ?_)) | (refine xc_cond rfl (fun hc => ?_) (fun hc => ?_)))
    · have hlt : i < l.length := by omega
      obtain ⟨b, off, cs, fz, rfl, hcap, hb, hcs⟩ := hD (fun h => by subst h; cases hlt)
      have g0 := hcs i _ (List.getElem?_eq_getElem hlt)
      have ht := List.take_add_one (l := l) (i := i)
      rw [List.getElem?_eq_getElem hlt] at ht
      have hle : ((l.take i).filter (fun z => decide (z < x))).length ≤ i := Nat.le_trans (List.length_filter_le _ _) (by rw [List.length_take]; exact Nat.min_le_left _ _)
      generalize l[i] = y at *
      have ei : IntKind.i64.wrap ((i : Int) + 1) = ((i + 1 : Nat) : Int) := next64' hlt (by omega)
      refine ix (h0 := (by omega)) (h1 := (by omega)) (k := ?_)
      refine lh (hA.o.block hb (by simp)) (v := .int .i64 y) (show cs[off + ((i : Nat) : Int).toNat * 1]? = some (.int .i64 y) by simpa using g0) (k := ?_)
      repeat' (first | refine vs (k := ?_) | refine ps (k := ?_) | (refine st hs (k := ?_); intro w hs) | (refine stA hs (k := ?_); intro w hs) | (refine al hs (k := ?_); intro b w hz hs) | (refine bx hs (k := ?_); intro b w hz hs) | (refine bs hs (k := ?_); intro b w hz hs) | refine XS.nil ?_ | refine then_of ?_ | refine xc_seq ?_ | (refine xc_region ?_ ?_; exact rfl) | refine xc_block ?_ | refine block_normal ?_ | refine xc_ret ?_ | refine then_ret ?_ | refine block_ret ?_ | refine xc_skip ?_ | refine xc_exit ?_ | refine then_exit ?_ | refine loopS_exit ?_ | refine loopS_ret ?_ | refine cutB_ret ?_ | refine cutN_ret ?_ | refine cutN_exit ?_ | refine block_exit ?_ | (refine block_other ?_ ?_; exact rfl) | (refine xc_true ?_ ?_; exact rfl) | (refine xc_false ?_ ?_; exact rfl) | ((with_reducible apply xs_guard); exact rfl; exact rfl; intro c hc; (fail_if_success (have : true = c := hc)); (fail_if_success (have : false = c := hc)); cases c) | (refine xc_if rfl (fun hc => ?_) (fun hc => ?_)) | (refine xc_cond rfl (fun hc => ?_) (fun hc => ?_)))
      · have hc' : y < x := by simpa using hc
        have e1 : (l.take (i + 1)).filter (fun z => decide (z < x)) = (l.take i).filter (fun z => decide (z < x)) ++ [y] := by
          rw [ht]
          simp only [Option.toList, RB.sans, List.filter_append]
          simp [hc']
        have hb2 := hs.get At.head
        refine apN (hA.only (hs.only0 rfl)) hb2 (by omega) (k := ?_)
        intro v2 w2 hA2
        rw [← e1] at hA2
        clear hs
        have hs := St.nil w2
        repeat' (first | refine vs (k := ?_) | refine ps (k := ?_) | (refine st hs (k := ?_); intro w hs) | (refine stA hs (k := ?_); intro w hs) | (refine al hs (k := ?_); intro b w hz hs) | (refine bx hs (k := ?_); intro b w hz hs) | (refine bs hs (k := ?_); intro b w hz hs) | refine XS.nil ?_ | refine then_of ?_ | refine xc_seq ?_ | (refine xc_region ?_ ?_; exact rfl) | refine xc_block ?_ | refine block_normal ?_ | refine xc_ret ?_ | refine then_ret ?_ | refine block_ret ?_ | refine xc_skip ?_ | refine xc_exit ?_ | refine then_exit ?_ | refine loopS_exit ?_ | refine loopS_ret ?_ | refine cutB_ret ?_ | refine cutN_ret ?_ | refine cutN_exit ?_ | refine block_exit ?_ | (refine block_other ?_ ?_; exact rfl) | (refine xc_true ?_ ?_; exact rfl) | (refine xc_false ?_ ?_; exact rfl) | ((with_reducible apply xs_guard); exact rfl; exact rfl; intro c hc; (fail_if_success (have : true = c := hc)); (fail_if_success (have : false = c := hc)); cases c) | (refine xc_if rfl (fun hc => ?_) (fun hc => ?_)) | (refine xc_cond rfl (fun hc => ?_) (fun hc => ?_)))
        exact loopS_next (i + 1, v2) (by dsimp only; omega) (by (repeat (first | exact agree_nil | (apply agree_cons; first | exact rfl | exact congrArg (Value.int .i64) ei)))) ⟨by dsimp only; omega, hA2.only (hs.only0 rfl)⟩
      · have hc' : ¬ (y < x) := by simpa using hc
        have e1 : (l.take (i + 1)).filter (fun z => decide (z < x)) = (l.take i).filter (fun z => decide (z < x)) := by
          rw [ht]
          simp only [Option.toList, RB.sans, List.filter_append]
          simp [Int.not_lt.1, hc']
          try omega
        refine loopS_next (i + 1, va) (by dsimp only; omega) (by (repeat (first | exact agree_nil | (apply agree_cons; first | exact rfl | exact congrArg (Value.int .i64) ei)))) ⟨by dsimp only; omega, ?_⟩
        dsimp only
        rw [e1]
        exact hA.only (hs.only0 rfl)
    · have e : l.take i = l := List.take_of_length_le (by omega)
      rw [e] at hA
      exact cutB_exit va (by (repeat (first | exact agree_nil | (apply agree_cons; exact rfl)))) (hA.only (hs.only0 rfl))
  · clear hs
    rintro va env w hA
    have hs := St.nil w
    repeat' (first | refine vs (k := ?_) | refine ps (k := ?_) | (refine st hs (k := ?_); intro w hs) | (refine stA hs (k := ?_); intro w hs) | (refine al hs (k := ?_); intro b w hz hs) | (refine bx hs (k := ?_); intro b w hz hs) | (refine bs hs (k := ?_); intro b w hz hs) | refine XS.nil ?_ | refine then_of ?_ | refine xc_seq ?_ | (refine xc_region ?_ ?_; exact rfl) | refine xc_block ?_ | refine block_normal ?_ | refine xc_ret ?_ | refine then_ret ?_ | refine block_ret ?_ | refine xc_skip ?_ | refine xc_exit ?_ | refine then_exit ?_ | refine loopS_exit ?_ | refine loopS_ret ?_ | refine cutB_ret ?_ | refine cutN_ret ?_ | refine cutN_exit ?_ | refine block_exit ?_ | (refine block_other ?_ ?_; exact rfl) | (refine xc_true ?_ ?_; exact rfl) | (refine xc_false ?_ ?_; exact rfl) | ((with_reducible apply xs_guard); exact rfl; exact rfl; intro c hc; (fail_if_success (have : true = c := hc)); (fail_if_success (have : false = c := hc)); cases c) | (refine xc_if rfl (fun hc => ?_) (fun hc => ?_)) | (refine xc_cond rfl (fun hc => ?_) (fun hc => ?_)))
    first | refine rt (hq := ?_) | refine rt' (hq := ?_)
    have ho := hs.only0 rfl
    exact ⟨(hA.only ho).dat, (hA.only ho).o⟩
set_option maxHeartbeats 1000000 in
theorem refDelete_ret (sl : Value) (l : List Int) (x : Int) (hm : l.length ≤ 1000000) (w0 : World) (hL : DAt w0 sl l) : Ret Try.prog 48 #[sl, .int .i64 x] w0 fun v w' => (∃ sl', v = .tuple #[sl', .bool (decide (x ∈ l))] ∧ DAt w' sl' (RB.sans x l)) ∧ Only [] w0 w' := by
  have hL0 := hL
  obtain ⟨ad, cap, rfl, hD⟩ := hL
  have hs := St.nil w0
  refine ret_of_xc Try.func48 (by kernel_rfl) rfl Try.ntmps48 rfl rfl rfl ?_
  repeat' (first | refine vs (k := ?_) | refine ps (k := ?_) | (refine st hs (k := ?_); intro w hs) | (refine stA hs (k := ?_); intro w hs) | (refine al hs (k := ?_); intro b w hz hs) | (refine bx hs (k := ?_); intro b w hz hs) | (refine bs hs (k := ?_); intro b w hz hs) | refine XS.nil ?_ | refine then_of ?_ | refine xc_seq ?_ | (refine xc_region ?_ ?_; exact rfl) | refine xc_block ?_ | refine block_normal ?_ | refine xc_ret ?_ | refine then_ret ?_ | refine block_ret ?_ | refine xc_skip ?_ | refine xc_exit ?_ | refine then_exit ?_ | refine loopS_exit ?_ | refine loopS_ret ?_ | refine cutB_ret ?_ | refine cutN_ret ?_ | refine cutN_exit ?_ | refine block_exit ?_ | (refine block_other ?_ ?_; exact rfl) | (refine xc_true ?_ ?_; exact rfl) | (refine xc_false ?_ ?_; exact rfl) | ((with_reducible apply xs_guard); exact rfl; exact rfl; intro c hc; (fail_if_success (have : true = c := hc)); (fail_if_success (have : false = c := hc)); cases c) | (refine xc_if rfl (fun hc => ?_) (fun hc => ?_)) | (refine xc_cond rfl (fun hc => ?_) (fun hc => ?_)))
  refine xc_cutB (fun (v : Value) => [(0, .slice ad l.length cap), (1, .int .i64 x), (6, v)]) (fun v w => Acc w0 v (RB.sans x (l)) w) ?_ ?_
  · refine xc_loopS (fun (s : Nat × Value) => [(0, .slice ad l.length cap), (1, .int .i64 x), (6, s.2), (9, .slice ad l.length cap), (10, .int .i64 (l.length : Nat)), (11, .int .i64 (s.1 : Nat))])
      (fun s w => s.1 ≤ l.length ∧ Acc w0 s.2 (RB.sans x (l.take s.1)) w) (fun s => l.length - s.1) (0, .slice none 0 0) (by (repeat (first | exact agree_nil | (apply agree_cons; exact rfl)))) ⟨Nat.zero_le _, (Acc.nil w0).only (hs.only0 rfl)⟩ fun s env w ⟨hi, hA⟩ => ?_
    clear hs
    obtain ⟨i, va⟩ := s
    dsimp only at hi hA ⊢
    have hs := St.nil w
    repeat' (first | refine vs (k := ?_) | refine ps (k := ?_) | (refine st hs (k := ?_); intro w hs) | (refine stA hs (k := ?_); intro w hs) | (refine al hs (k := ?_); intro b w hz hs) | (refine bx hs (k := ?_); intro b w hz hs) | (refine bs hs (k := ?_); intro b w hz hs) | refine XS.nil ?_ | refine then_of ?_ | refine xc_seq ?_ | (refine xc_region ?_ ?_; exact rfl) | refine xc_block ?_ | refine block_normal ?_ | refine xc_ret ?_ | refine then_ret ?_ | refine block_ret ?_ | refine xc_skip ?_ | refine xc_exit ?_ | refine then_exit ?_ | refine loopS_exit ?_ | refine loopS_ret ?_ | refine cutB_ret ?_ | refine cutN_ret ?_ | refine cutN_exit ?_ | refine block_exit ?_ | (refine block_other ?_ ?_; exact rfl) | (refine xc_true ?_ ?_; exact rfl) | (refine xc_false ?_ ?_; exact rfl) | ((with_reducible apply xs_guard); exact rfl; exact rfl; intro c hc; (fail_if_success (have : true = c := hc)); (fail_if_success (have : false = c := hc)); cases c) | (refine xc_if rfl (fun hc => ?_) (fun hc => ?_)) | (refine xc_cond rfl (fun hc => ?_) (fun hc => ?_)))
    · have hlt : i < l.length := by omega
      obtain ⟨b, off, cs, fz, rfl, hcap, hb, hcs⟩ := hD (fun h => by subst h; cases hlt)
      have g0 := hcs i _ (List.getElem?_eq_getElem hlt)
      have ht := List.take_add_one (l := l) (i := i)
      rw [List.getElem?_eq_getElem hlt] at ht
      have hle : (RB.sans x (l.take i)).length ≤ i := Nat.le_trans (List.length_filter_le _ _) (by rw [List.length_take]; exact Nat.min_le_left _ _)
      generalize l[i] = y at *
      have ei : IntKind.i64.wrap ((i : Int) + 1) = ((i + 1 : Nat) : Int) := next64' hlt (by omega)
      refine ix (h0 := (by omega)) (h1 := (by omega)) (k := ?_)
      refine lh (hA.o.block hb (by simp)) (v := .int .i64 y) (show cs[off + ((i : Nat) : Int).toNat * 1]? = some (.int .i64 y) by simpa using g0) (k := ?_)
      repeat' (first | refine vs (k := ?_) | refine ps (k := ?_) | (refine st hs (k := ?_); intro w hs) | (refine stA hs (k := ?_); intro w hs) | (refine al hs (k := ?_); intro b w hz hs) | (refine bx hs (k := ?_); intro b w hz hs) | (refine bs hs (k := ?_); intro b w hz hs) | refine XS.nil ?_ | refine then_of ?_ | refine xc_seq ?_ | (refine xc_region ?_ ?_; exact rfl) | refine xc_block ?_ | refine block_normal ?_ | refine xc_ret ?_ | refine then_ret ?_ | refine block_ret ?_ | refine xc_skip ?_ | refine xc_exit ?_ | refine then_exit ?_ | refine loopS_exit ?_ | refine loopS_ret ?_ | refine cutB_ret ?_ | refine cutN_ret ?_ | refine cutN_exit ?_ | refine block_exit ?_ | (refine block_other ?_ ?_; exact rfl) | (refine xc_true ?_ ?_; exact rfl) | (refine xc_false ?_ ?_; exact rfl) | ((with_reducible apply xs_guard); exact rfl; exact rfl; intro c hc; (fail_if_success (have : true = c := hc)); (fail_if_success (have : false = c := hc)); cases c) | (refine xc_if rfl (fun hc => ?_) (fun hc => ?_)) | (refine xc_cond rfl (fun hc => ?_) (fun hc => ?_)))
      · have hc' : y ≠ x := by simpa using hc
        have e1 : RB.sans x (l.take (i + 1)) = RB.sans x (l.take i) ++ [y] := by
          rw [ht]
          simp only [Option.toList, RB.sans, List.filter_append]
          simp [hc']
        have hb2 := hs.get At.head
        refine apN (hA.only (hs.only0 rfl)) hb2 (by omega) (k := ?_)
        intro v2 w2 hA2
        rw [← e1] at hA2
        clear hs
        have hs := St.nil w2
        repeat' (first | refine vs (k := ?_) | refine ps (k := ?_) | (refine st hs (k := ?_); intro w hs) | (refine stA hs (k := ?_); intro w hs) | (refine al hs (k := ?_); intro b w hz hs) | (refine bx hs (k := ?_); intro b w hz hs) | (refine bs hs (k := ?_); intro b w hz hs) | refine XS.nil ?_ | refine then_of ?_ | refine xc_seq ?_ | (refine xc_region ?_ ?_; exact rfl) | refine xc_block ?_ | refine block_normal ?_ | refine xc_ret ?_ | refine then_ret ?_ | refine block_ret ?_ | refine xc_skip ?_ | refine xc_exit ?_ | refine then_exit ?_ | refine loopS_exit ?_ | refine loopS_ret ?_ | refine cutB_ret ?_ | refine cutN_ret ?_ | refine cutN_exit ?_ | refine block_exit ?_ | (refine block_other ?_ ?_; exact rfl) | (refine xc_true ?_ ?_; exact rfl) | (refine xc_false ?_ ?_; exact rfl) | ((with_reducible apply xs_guard); exact rfl; exact rfl; intro c hc; (fail_if_success (have : true = c := hc)); (fail_if_success (have : false = c := hc)); cases c) | (refine xc_if rfl (fun hc => ?_) (fun hc => ?_)) | (refine xc_cond rfl (fun hc => ?_) (fun hc => ?_)))
        exact loopS_next (i + 1, v2) (by dsimp only; omega) (by (repeat (first | exact agree_nil | (apply agree_cons; first | exact rfl | exact congrArg (Value.int .i64) ei)))) ⟨by dsimp only; omega, hA2.only (hs.only0 rfl)⟩
      · have hc' : ¬ (y ≠ x) := by simpa using hc
        have e1 : RB.sans x (l.take (i + 1)) = RB.sans x (l.take i) := by
          rw [ht]
          simp only [Option.toList, RB.sans, List.filter_append]
          simp [Int.not_lt.1, hc']
          try omega
        refine loopS_next (i + 1, va) (by dsimp only; omega) (by (repeat (first | exact agree_nil | (apply agree_cons; first | exact rfl | exact congrArg (Value.int .i64) ei)))) ⟨by dsimp only; omega, ?_⟩
        dsimp only
        rw [e1]
        exact hA.only (hs.only0 rfl)
    · have e : l.take i = l := List.take_of_length_le (by omega)
      rw [e] at hA
      exact cutB_exit va (by (repeat (first | exact agree_nil | (apply agree_cons; exact rfl)))) (hA.only (hs.only0 rfl))
  · clear hs
    rintro va env w hA
    have hs := St.nil w
    repeat' (first | refine vs (k := ?_) | refine ps (k := ?_) | (refine st hs (k := ?_); intro w hs) | (refine stA hs (k := ?_); intro w hs) | (refine al hs (k := ?_); intro b w hz hs) | (refine bx hs (k := ?_); intro b w hz hs) | (refine bs hs (k := ?_); intro b w hz hs) | refine XS.nil ?_ | refine then_of ?_ | refine xc_seq ?_ | (refine xc_region ?_ ?_; exact rfl) | refine xc_block ?_ | refine block_normal ?_ | refine xc_ret ?_ | refine then_ret ?_ | refine block_ret ?_ | refine xc_skip ?_ | refine xc_exit ?_ | refine then_exit ?_ | refine loopS_exit ?_ | refine loopS_ret ?_ | refine cutB_ret ?_ | refine cutN_ret ?_ | refine cutN_exit ?_ | refine block_exit ?_ | (refine block_other ?_ ?_; exact rfl) | (refine xc_true ?_ ?_; exact rfl) | (refine xc_false ?_ ?_; exact rfl) | ((with_reducible apply xs_guard); exact rfl; exact rfl; intro c hc; (fail_if_success (have : true = c := hc)); (fail_if_success (have : false = c := hc)); cases c) | (refine xc_if rfl (fun hc => ?_) (fun hc => ?_)) | (refine xc_cond rfl (fun hc => ?_) (fun hc => ?_)))
    (with_reducible apply xs_call); exact rfl; exact rfl; exact refHas_ret _ l x hm _ (hL0.only (hA.only (hs.only0 rfl)).o)
    rintro v w' ⟨rfl, ho⟩; replace hs := hs.call0 ho
    repeat' (first | refine vs (k := ?_) | refine ps (k := ?_) | (refine st hs (k := ?_); intro w hs) | (refine stA hs (k := ?_); intro w hs) | (refine al hs (k := ?_); intro b w hz hs) | (refine bx hs (k := ?_); intro b w hz hs) | (refine bs hs (k := ?_); intro b w hz hs) | refine XS.nil ?_ | refine then_of ?_ | refine xc_seq ?_ | (refine xc_region ?_ ?_; exact rfl) | refine xc_block ?_ | refine block_normal ?_ | refine xc_ret ?_ | refine then_ret ?_ | refine block_ret ?_ | refine xc_skip ?_ | refine xc_exit ?_ | refine then_exit ?_ | refine loopS_exit ?_ | refine loopS_ret ?_ | refine cutB_ret ?_ | refine cutN_ret ?_ | refine cutN_exit ?_ | refine block_exit ?_ | (refine block_other ?_ ?_; exact rfl) | (refine xc_true ?_ ?_; exact rfl) | (refine xc_false ?_ ?_; exact rfl) | ((with_reducible apply xs_guard); exact rfl; exact rfl; intro c hc; (fail_if_success (have : true = c := hc)); (fail_if_success (have : false = c := hc)); cases c) | (refine xc_if rfl (fun hc => ?_) (fun hc => ?_)) | (refine xc_cond rfl (fun hc => ?_) (fun hc => ?_)))
    first | refine rt (hq := ?_) | refine rt' (hq := ?_)
    have ho := hs.only0 rfl
    exact ⟨⟨_, rfl, (hA.only ho).dat⟩, (hA.only ho).o⟩
theorem insL_app {x : Int} (B : List Int) : ∀ A : List Int, (∃ z ∈ A, ltI x z = true) → RB.insL ltI x (A ++ B) = RB.insL ltI x A ++ B
  | [], h => by obtain ⟨z, hz, _⟩ := h; cases hz
  | a :: A, h => by
    simp only [List.cons_append, RB.insL]
    cases ha : ltI x a
    · simp only [cond_false, List.cons_append]
      rw [insL_app B A]
      obtain ⟨z, hz, h⟩ := h
      rcases List.mem_cons.1 hz with rfl | hz
      · rw [ha] at h; cases h
      · exact ⟨z, hz, h⟩
    · simp only [cond_true, List.cons_append]
/-- The list on its way: x is in, or isn't yet. -/
def Ins6 (x : Int) (A : List Int) (dn : Bool) (acc : List Int) : Prop :=
  bif dn then (∃ z ∈ A, ltI x z = true) ∧ acc = RB.insL ltI x A else (∀ z ∈ A, ltI x z = false) ∧ acc = A
set_option maxHeartbeats 2000000 in
theorem refInsert_ret (sl : Value) (l : List Int) (x : Int) (hm : l.length ≤ 100000) (w0 : World) (hL : DAt w0 sl l) : Ret Try.prog 49 #[sl, .int .i64 x] w0 fun v w' => (∃ sl', v = .tuple #[sl', .bool (!decide (x ∈ l))] ∧ DAt w' sl' (insS x l)) ∧ Only [] w0 w' := by
  have hL0 := hL
  obtain ⟨ad, cap, rfl, hD⟩ := hL
  have hs := St.nil w0
  refine ret_of_xc Try.func49 (by kernel_rfl) rfl Try.ntmps49 rfl rfl rfl ?_
  repeat' (first | refine vs (k := ?_) | refine ps (k := ?_) | (refine st hs (k := ?_); intro w hs) | (refine stA hs (k := ?_); intro w hs) | (refine al hs (k := ?_); intro b w hz hs) | (refine bx hs (k := ?_); intro b w hz hs) | (refine bs hs (k := ?_); intro b w hz hs) | refine XS.nil ?_ | refine then_of ?_ | refine xc_seq ?_ | (refine xc_region ?_ ?_; exact rfl) | refine xc_block ?_ | refine block_normal ?_ | refine xc_ret ?_ | refine then_ret ?_ | refine block_ret ?_ | refine xc_skip ?_ | refine xc_exit ?_ | refine then_exit ?_ | refine loopS_exit ?_ | refine loopS_ret ?_ | refine cutB_ret ?_ | refine cutN_ret ?_ | refine cutN_exit ?_ | refine block_exit ?_ | (refine block_other ?_ ?_; exact rfl) | (refine xc_true ?_ ?_; exact rfl) | (refine xc_false ?_ ?_; exact rfl) | ((with_reducible apply xs_guard); exact rfl; exact rfl; intro c hc; (fail_if_success (have : true = c := hc)); (fail_if_success (have : false = c := hc)); cases c) | (refine xc_if rfl (fun hc => ?_) (fun hc => ?_)) | (refine xc_cond rfl (fun hc => ?_) (fun hc => ?_)))
  (with_reducible apply xs_call); exact rfl; exact rfl; exact refHas_ret _ l x (by omega) _ (hL0.only (hs.only0 rfl))
  rintro v w1 ⟨rfl, ho⟩; replace hs := hs.call0 ho
  by_cases hx : x ∈ l
  · rw [decide_eq_true hx]
    repeat' (first | refine vs (k := ?_) | refine ps (k := ?_) | (refine st hs (k := ?_); intro w hs) | (refine stA hs (k := ?_); intro w hs) | (refine al hs (k := ?_); intro b w hz hs) | (refine bx hs (k := ?_); intro b w hz hs) | (refine bs hs (k := ?_); intro b w hz hs) | refine XS.nil ?_ | refine then_of ?_ | refine xc_seq ?_ | (refine xc_region ?_ ?_; exact rfl) | refine xc_block ?_ | refine block_normal ?_ | refine xc_ret ?_ | refine then_ret ?_ | refine block_ret ?_ | refine xc_skip ?_ | refine xc_exit ?_ | refine then_exit ?_ | refine loopS_exit ?_ | refine loopS_ret ?_ | refine cutB_ret ?_ | refine cutN_ret ?_ | refine cutN_exit ?_ | refine block_exit ?_ | (refine block_other ?_ ?_; exact rfl) | (refine xc_true ?_ ?_; exact rfl) | (refine xc_false ?_ ?_; exact rfl) | ((with_reducible apply xs_guard); exact rfl; exact rfl; intro c hc; (fail_if_success (have : true = c := hc)); (fail_if_success (have : false = c := hc)); cases c) | (refine xc_if rfl (fun hc => ?_) (fun hc => ?_)) | (refine xc_cond rfl (fun hc => ?_) (fun hc => ?_)))
    first | refine rt (hq := ?_) | refine rt' (hq := ?_)
    have ho := hs.only0 rfl
    refine ⟨⟨_, rfl, ?_⟩, ho⟩
    unfold insS
    rw [if_pos hx]
    exact hL0.only ho
  · rw [decide_eq_false hx]
    repeat' (first | refine vs (k := ?_) | refine ps (k := ?_) | (refine st hs (k := ?_); intro w hs) | (refine stA hs (k := ?_); intro w hs) | (refine al hs (k := ?_); intro b w hz hs) | (refine bx hs (k := ?_); intro b w hz hs) | (refine bs hs (k := ?_); intro b w hz hs) | refine XS.nil ?_ | refine then_of ?_ | refine xc_seq ?_ | (refine xc_region ?_ ?_; exact rfl) | refine xc_block ?_ | refine block_normal ?_ | refine xc_ret ?_ | refine then_ret ?_ | refine block_ret ?_ | refine xc_skip ?_ | refine xc_exit ?_ | refine then_exit ?_ | refine loopS_exit ?_ | refine loopS_ret ?_ | refine cutB_ret ?_ | refine cutN_ret ?_ | refine cutN_exit ?_ | refine block_exit ?_ | (refine block_other ?_ ?_; exact rfl) | (refine xc_true ?_ ?_; exact rfl) | (refine xc_false ?_ ?_; exact rfl) | ((with_reducible apply xs_guard); exact rfl; exact rfl; intro c hc; (fail_if_success (have : true = c := hc)); (fail_if_success (have : false = c := hc)); cases c) | (refine xc_if rfl (fun hc => ?_) (fun hc => ?_)) | (refine xc_cond rfl (fun hc => ?_) (fun hc => ?_)))
    have ho1 := hs.only0 rfl
    refine xc_cutB (fun (s : Value × Bool) => [(1, .int .i64 x), (6, s.1), (7, .bool s.2)]) (fun s w => ∃ acc, Acc w0 s.1 acc w ∧ Ins6 x l s.2 acc ∧ acc.length ≤ l.length + 1) ?_ ?_
    · refine xc_loopS (fun (s : Nat × Value × Bool) => [(1, .int .i64 x), (6, s.2.1), (7, .bool s.2.2), (14, .slice ad l.length cap), (15, .int .i64 (l.length : Nat)), (16, .int .i64 (s.1 : Nat))])
        (fun s w => s.1 ≤ l.length ∧ ∃ acc, Acc w0 s.2.1 acc w ∧ Ins6 x (l.take s.1) s.2.2 acc ∧ acc.length ≤ s.1 + 1) (fun s => l.length - s.1) (0, .slice none 0 0, false) (by (repeat (first | exact agree_nil | (apply agree_cons; exact rfl)))) ⟨Nat.zero_le _, [], (Acc.nil w0).only ho1, ⟨(fun z h => by simp at h), by simp⟩, by simp⟩ fun s env w ⟨hi, acc, hA, hI, hlen⟩ => ?_
      clear hs
      obtain ⟨i, va, dn⟩ := s
      dsimp only at hi hA hI hlen ⊢
      have hs := St.nil w
      repeat' (first | refine vs (k := ?_) | refine ps (k := ?_) | (refine st hs (k := ?_); intro w hs) | (refine stA hs (k := ?_); intro w hs) | (refine al hs (k := ?_); intro b w hz hs) | (refine bx hs (k := ?_); intro b w hz hs) | (refine bs hs (k := ?_); intro b w hz hs) | refine XS.nil ?_ | refine then_of ?_ | refine xc_seq ?_ | (refine xc_region ?_ ?_; exact rfl) | refine xc_block ?_ | refine block_normal ?_ | refine xc_ret ?_ | refine then_ret ?_ | refine block_ret ?_ | refine xc_skip ?_ | refine xc_exit ?_ | refine then_exit ?_ | refine loopS_exit ?_ | refine loopS_ret ?_ | refine cutB_ret ?_ | refine cutN_ret ?_ | refine cutN_exit ?_ | refine block_exit ?_ | (refine block_other ?_ ?_; exact rfl) | (refine xc_true ?_ ?_; exact rfl) | (refine xc_false ?_ ?_; exact rfl) | ((with_reducible apply xs_guard); exact rfl; exact rfl; intro c hc; (fail_if_success (have : true = c := hc)); (fail_if_success (have : false = c := hc)); cases c) | (refine xc_if rfl (fun hc => ?_) (fun hc => ?_)) | (refine xc_cond rfl (fun hc => ?_) (fun hc => ?_)))
      · have hlt : i < l.length := by omega
        obtain ⟨b, off, cs, fz, rfl, hcap, hb, hcs⟩ := hD (fun h => by subst h; cases hlt)
        have g0 := hcs i _ (List.getElem?_eq_getElem hlt)
        have ht := List.take_add_one (l := l) (i := i)
        rw [List.getElem?_eq_getElem hlt] at ht
        simp only [Option.toList] at ht
        generalize l[i] = y at *
        have ei : IntKind.i64.wrap ((i : Int) + 1) = ((i + 1 : Nat) : Int) := next64' hlt (by omega)
        refine ix (h0 := (by omega)) (h1 := (by omega)) (k := ?_)
        refine lh (hA.o.block hb (by simp)) (v := .int .i64 y) (show cs[off + ((i : Nat) : Int).toNat * 1]? = some (.int .i64 y) by simpa using g0) (k := ?_)
        cases dn
        · obtain ⟨h1, rfl⟩ : (∀ z ∈ l.take i, ltI x z = false) ∧ acc = l.take i := hI
          have hti : (l.take i).length ≤ i := by rw [List.length_take]; exact Nat.min_le_left _ _
          repeat' (first | refine vs (k := ?_) | refine ps (k := ?_) | (refine st hs (k := ?_); intro w hs) | (refine stA hs (k := ?_); intro w hs) | (refine al hs (k := ?_); intro b w hz hs) | (refine bx hs (k := ?_); intro b w hz hs) | (refine bs hs (k := ?_); intro b w hz hs) | refine XS.nil ?_ | refine then_of ?_ | refine xc_seq ?_ | (refine xc_region ?_ ?_; exact rfl) | refine xc_block ?_ | refine block_normal ?_ | refine xc_ret ?_ | refine then_ret ?_ | refine block_ret ?_ | refine xc_skip ?_ | refine xc_exit ?_ | refine then_exit ?_ | refine loopS_exit ?_ | refine loopS_ret ?_ | refine cutB_ret ?_ | refine cutN_ret ?_ | refine cutN_exit ?_ | refine block_exit ?_ | (refine block_other ?_ ?_; exact rfl) | (refine xc_true ?_ ?_; exact rfl) | (refine xc_false ?_ ?_; exact rfl) | ((with_reducible apply xs_guard); exact rfl; exact rfl; intro c hc; (fail_if_success (have : true = c := hc)); (fail_if_success (have : false = c := hc)); cases c) | (refine xc_if rfl (fun hc => ?_) (fun hc => ?_)) | (refine xc_cond rfl (fun hc => ?_) (fun hc => ?_)))
          · have hyx : ltI x y = true := decide_eq_true (by simpa using hc)
            have hb2 := hs.get At.head
            refine apN (hA.only (hs.only0 rfl)) hb2 (by omega) (k := ?_)
            intro v2 w2 hA2
            clear hs
            have hs := St.nil w2
            repeat' (first | refine vs (k := ?_) | refine ps (k := ?_) | (refine st hs (k := ?_); intro w hs) | (refine stA hs (k := ?_); intro w hs) | (refine al hs (k := ?_); intro b w hz hs) | (refine bx hs (k := ?_); intro b w hz hs) | (refine bs hs (k := ?_); intro b w hz hs) | refine XS.nil ?_ | refine then_of ?_ | refine xc_seq ?_ | (refine xc_region ?_ ?_; exact rfl) | refine xc_block ?_ | refine block_normal ?_ | refine xc_ret ?_ | refine then_ret ?_ | refine block_ret ?_ | refine xc_skip ?_ | refine xc_exit ?_ | refine then_exit ?_ | refine loopS_exit ?_ | refine loopS_ret ?_ | refine cutB_ret ?_ | refine cutN_ret ?_ | refine cutN_exit ?_ | refine block_exit ?_ | (refine block_other ?_ ?_; exact rfl) | (refine xc_true ?_ ?_; exact rfl) | (refine xc_false ?_ ?_; exact rfl) | ((with_reducible apply xs_guard); exact rfl; exact rfl; intro c hc; (fail_if_success (have : true = c := hc)); (fail_if_success (have : false = c := hc)); cases c) | (refine xc_if rfl (fun hc => ?_) (fun hc => ?_)) | (refine xc_cond rfl (fun hc => ?_) (fun hc => ?_)))
            have hb3 := hs.get At.head
            refine apN (hA2.only (hs.only0 rfl)) hb3 (by simp only [List.length_append, List.length_cons, List.length_nil]; omega) (k := ?_)
            intro v3 w3 hA3
            clear hs
            have hs := St.nil w3
            repeat' (first | refine vs (k := ?_) | refine ps (k := ?_) | (refine st hs (k := ?_); intro w hs) | (refine stA hs (k := ?_); intro w hs) | (refine al hs (k := ?_); intro b w hz hs) | (refine bx hs (k := ?_); intro b w hz hs) | (refine bs hs (k := ?_); intro b w hz hs) | refine XS.nil ?_ | refine then_of ?_ | refine xc_seq ?_ | (refine xc_region ?_ ?_; exact rfl) | refine xc_block ?_ | refine block_normal ?_ | refine xc_ret ?_ | refine then_ret ?_ | refine block_ret ?_ | refine xc_skip ?_ | refine xc_exit ?_ | refine then_exit ?_ | refine loopS_exit ?_ | refine loopS_ret ?_ | refine cutB_ret ?_ | refine cutN_ret ?_ | refine cutN_exit ?_ | refine block_exit ?_ | (refine block_other ?_ ?_; exact rfl) | (refine xc_true ?_ ?_; exact rfl) | (refine xc_false ?_ ?_; exact rfl) | ((with_reducible apply xs_guard); exact rfl; exact rfl; intro c hc; (fail_if_success (have : true = c := hc)); (fail_if_success (have : false = c := hc)); cases c) | (refine xc_if rfl (fun hc => ?_) (fun hc => ?_)) | (refine xc_cond rfl (fun hc => ?_) (fun hc => ?_)))
            refine loopS_next (i + 1, v3, true) (by dsimp only; omega) (by (repeat (first | exact agree_nil | (apply agree_cons; first | exact rfl | exact congrArg (Value.int .i64) ei)))) ⟨by dsimp only; omega, _, hA3.only (hs.only0 rfl), ?_, by simp only [List.length_append, List.length_cons, List.length_nil]; omega⟩
            dsimp only
            rw [ht]
            refine ⟨⟨y, by simp, hyx⟩, ?_⟩
            rw [RB.insL_right _ _ h1]
            simp [RB.insL, hyx]
          · have hyx : ltI x y = false := decide_eq_false (by simpa using hc)
            have hb2 := hs.get At.head
            refine apN (hA.only (hs.only0 rfl)) hb2 (by omega) (k := ?_)
            intro v2 w2 hA2
            clear hs
            have hs := St.nil w2
            repeat' (first | refine vs (k := ?_) | refine ps (k := ?_) | (refine st hs (k := ?_); intro w hs) | (refine stA hs (k := ?_); intro w hs) | (refine al hs (k := ?_); intro b w hz hs) | (refine bx hs (k := ?_); intro b w hz hs) | (refine bs hs (k := ?_); intro b w hz hs) | refine XS.nil ?_ | refine then_of ?_ | refine xc_seq ?_ | (refine xc_region ?_ ?_; exact rfl) | refine xc_block ?_ | refine block_normal ?_ | refine xc_ret ?_ | refine then_ret ?_ | refine block_ret ?_ | refine xc_skip ?_ | refine xc_exit ?_ | refine then_exit ?_ | refine loopS_exit ?_ | refine loopS_ret ?_ | refine cutB_ret ?_ | refine cutN_ret ?_ | refine cutN_exit ?_ | refine block_exit ?_ | (refine block_other ?_ ?_; exact rfl) | (refine xc_true ?_ ?_; exact rfl) | (refine xc_false ?_ ?_; exact rfl) | ((with_reducible apply xs_guard); exact rfl; exact rfl; intro c hc; (fail_if_success (have : true = c := hc)); (fail_if_success (have : false = c := hc)); cases c) | (refine xc_if rfl (fun hc => ?_) (fun hc => ?_)) | (refine xc_cond rfl (fun hc => ?_) (fun hc => ?_)))
            refine loopS_next (i + 1, v2, false) (by dsimp only; omega) (by (repeat (first | exact agree_nil | (apply agree_cons; first | exact rfl | exact congrArg (Value.int .i64) ei)))) ⟨by dsimp only; omega, _, hA2.only (hs.only0 rfl), ?_, by simp only [List.length_append, List.length_cons, List.length_nil]; omega⟩
            dsimp only
            rw [ht]
            refine ⟨fun z hz => ?_, rfl⟩
            rcases List.mem_append.1 hz with hz | hz
            · exact h1 z hz
            · obtain rfl := List.mem_singleton.1 hz; exact hyx
        · obtain ⟨h1, rfl⟩ : (∃ z ∈ l.take i, ltI x z = true) ∧ acc = RB.insL ltI x (l.take i) := hI
          repeat' (first | refine vs (k := ?_) | refine ps (k := ?_) | (refine st hs (k := ?_); intro w hs) | (refine stA hs (k := ?_); intro w hs) | (refine al hs (k := ?_); intro b w hz hs) | (refine bx hs (k := ?_); intro b w hz hs) | (refine bs hs (k := ?_); intro b w hz hs) | refine XS.nil ?_ | refine then_of ?_ | refine xc_seq ?_ | (refine xc_region ?_ ?_; exact rfl) | refine xc_block ?_ | refine block_normal ?_ | refine xc_ret ?_ | refine then_ret ?_ | refine block_ret ?_ | refine xc_skip ?_ | refine xc_exit ?_ | refine then_exit ?_ | refine loopS_exit ?_ | refine loopS_ret ?_ | refine cutB_ret ?_ | refine cutN_ret ?_ | refine cutN_exit ?_ | refine block_exit ?_ | (refine block_other ?_ ?_; exact rfl) | (refine xc_true ?_ ?_; exact rfl) | (refine xc_false ?_ ?_; exact rfl) | ((with_reducible apply xs_guard); exact rfl; exact rfl; intro c hc; (fail_if_success (have : true = c := hc)); (fail_if_success (have : false = c := hc)); cases c) | (refine xc_if rfl (fun hc => ?_) (fun hc => ?_)) | (refine xc_cond rfl (fun hc => ?_) (fun hc => ?_)))
          have hb2 := hs.get At.head
          refine apN (hA.only (hs.only0 rfl)) hb2 (by omega) (k := ?_)
          intro v2 w2 hA2
          clear hs
          have hs := St.nil w2
          repeat' (first | refine vs (k := ?_) | refine ps (k := ?_) | (refine st hs (k := ?_); intro w hs) | (refine stA hs (k := ?_); intro w hs) | (refine al hs (k := ?_); intro b w hz hs) | (refine bx hs (k := ?_); intro b w hz hs) | (refine bs hs (k := ?_); intro b w hz hs) | refine XS.nil ?_ | refine then_of ?_ | refine xc_seq ?_ | (refine xc_region ?_ ?_; exact rfl) | refine xc_block ?_ | refine block_normal ?_ | refine xc_ret ?_ | refine then_ret ?_ | refine block_ret ?_ | refine xc_skip ?_ | refine xc_exit ?_ | refine then_exit ?_ | refine loopS_exit ?_ | refine loopS_ret ?_ | refine cutB_ret ?_ | refine cutN_ret ?_ | refine cutN_exit ?_ | refine block_exit ?_ | (refine block_other ?_ ?_; exact rfl) | (refine xc_true ?_ ?_; exact rfl) | (refine xc_false ?_ ?_; exact rfl) | ((with_reducible apply xs_guard); exact rfl; exact rfl; intro c hc; (fail_if_success (have : true = c := hc)); (fail_if_success (have : false = c := hc)); cases c) | (refine xc_if rfl (fun hc => ?_) (fun hc => ?_)) | (refine xc_cond rfl (fun hc => ?_) (fun hc => ?_)))
          refine loopS_next (i + 1, v2, true) (by dsimp only; omega) (by (repeat (first | exact agree_nil | (apply agree_cons; first | exact rfl | exact congrArg (Value.int .i64) ei)))) ⟨by dsimp only; omega, _, hA2.only (hs.only0 rfl), ?_, by simp only [List.length_append, List.length_cons, List.length_nil]; omega⟩
          dsimp only
          rw [ht]
          obtain ⟨z, hz, hzx⟩ := h1
          exact ⟨⟨z, List.mem_append_left _ hz, hzx⟩, (insL_app _ _ ⟨z, hz, hzx⟩).symm⟩
      · have e : l.take i = l := List.take_of_length_le (by omega)
        rw [e] at hI
        exact cutB_exit (va, dn) (by (repeat (first | exact agree_nil | (apply agree_cons; exact rfl)))) ⟨acc, hA.only (hs.only0 rfl), hI, by omega⟩
    · clear hs
      rintro ⟨va, dn⟩ env w ⟨acc, hA, hI, hlen⟩
      dsimp only at hA hI ⊢
      have hs := St.nil w
      have fin : ∀ (v3 : Value) (w3 : World), Acc w0 v3 (RB.insL ltI x l) w3 → (∃ sl', Value.tuple #[v3, .bool true] = .tuple #[sl', .bool (!false)] ∧ DAt w3 sl' (insS x l)) ∧ Only [] w0 w3 := fun v3 w3 h => by
        refine ⟨⟨v3, rfl, ?_⟩, h.o⟩
        unfold insS
        rw [if_neg hx]
        exact h.dat
      cases dn
      · obtain ⟨h1, rfl⟩ : (∀ z ∈ l, ltI x z = false) ∧ acc = l := hI
        repeat' (first | refine vs (k := ?_) | refine ps (k := ?_) | (refine st hs (k := ?_); intro w hs) | (refine stA hs (k := ?_); intro w hs) | (refine al hs (k := ?_); intro b w hz hs) | (refine bx hs (k := ?_); intro b w hz hs) | (refine bs hs (k := ?_); intro b w hz hs) | refine XS.nil ?_ | refine then_of ?_ | refine xc_seq ?_ | (refine xc_region ?_ ?_; exact rfl) | refine xc_block ?_ | refine block_normal ?_ | refine xc_ret ?_ | refine then_ret ?_ | refine block_ret ?_ | refine xc_skip ?_ | refine xc_exit ?_ | refine then_exit ?_ | refine loopS_exit ?_ | refine loopS_ret ?_ | refine cutB_ret ?_ | refine cutN_ret ?_ | refine cutN_exit ?_ | refine block_exit ?_ | (refine block_other ?_ ?_; exact rfl) | (refine xc_true ?_ ?_; exact rfl) | (refine xc_false ?_ ?_; exact rfl) | ((with_reducible apply xs_guard); exact rfl; exact rfl; intro c hc; (fail_if_success (have : true = c := hc)); (fail_if_success (have : false = c := hc)); cases c) | (refine xc_if rfl (fun hc => ?_) (fun hc => ?_)) | (refine xc_cond rfl (fun hc => ?_) (fun hc => ?_)))
        have hb2 := hs.get At.head
        refine apN (hA.only (hs.only0 rfl)) hb2 (by omega) (k := ?_)
        intro v2 w2 hA2
        clear hs
        have hs := St.nil w2
        repeat' (first | refine vs (k := ?_) | refine ps (k := ?_) | (refine st hs (k := ?_); intro w hs) | (refine stA hs (k := ?_); intro w hs) | (refine al hs (k := ?_); intro b w hz hs) | (refine bx hs (k := ?_); intro b w hz hs) | (refine bs hs (k := ?_); intro b w hz hs) | refine XS.nil ?_ | refine then_of ?_ | refine xc_seq ?_ | (refine xc_region ?_ ?_; exact rfl) | refine xc_block ?_ | refine block_normal ?_ | refine xc_ret ?_ | refine then_ret ?_ | refine block_ret ?_ | refine xc_skip ?_ | refine xc_exit ?_ | refine then_exit ?_ | refine loopS_exit ?_ | refine loopS_ret ?_ | refine cutB_ret ?_ | refine cutN_ret ?_ | refine cutN_exit ?_ | refine block_exit ?_ | (refine block_other ?_ ?_; exact rfl) | (refine xc_true ?_ ?_; exact rfl) | (refine xc_false ?_ ?_; exact rfl) | ((with_reducible apply xs_guard); exact rfl; exact rfl; intro c hc; (fail_if_success (have : true = c := hc)); (fail_if_success (have : false = c := hc)); cases c) | (refine xc_if rfl (fun hc => ?_) (fun hc => ?_)) | (refine xc_cond rfl (fun hc => ?_) (fun hc => ?_)))
        first | refine rt (hq := ?_) | refine rt' (hq := ?_)
        have e : acc ++ [x] = RB.insL ltI x acc := by
          have := RB.insL_right (lt := ltI) (x := x) [] acc h1
          simpa [RB.insL] using this.symm
        rw [e] at hA2
        exact fin _ _ (hA2.only (hs.only0 rfl))
      · obtain ⟨h1, rfl⟩ : (∃ z ∈ l, ltI x z = true) ∧ acc = RB.insL ltI x l := hI
        repeat' (first | refine vs (k := ?_) | refine ps (k := ?_) | (refine st hs (k := ?_); intro w hs) | (refine stA hs (k := ?_); intro w hs) | (refine al hs (k := ?_); intro b w hz hs) | (refine bx hs (k := ?_); intro b w hz hs) | (refine bs hs (k := ?_); intro b w hz hs) | refine XS.nil ?_ | refine then_of ?_ | refine xc_seq ?_ | (refine xc_region ?_ ?_; exact rfl) | refine xc_block ?_ | refine block_normal ?_ | refine xc_ret ?_ | refine then_ret ?_ | refine block_ret ?_ | refine xc_skip ?_ | refine xc_exit ?_ | refine then_exit ?_ | refine loopS_exit ?_ | refine loopS_ret ?_ | refine cutB_ret ?_ | refine cutN_ret ?_ | refine cutN_exit ?_ | refine block_exit ?_ | (refine block_other ?_ ?_; exact rfl) | (refine xc_true ?_ ?_; exact rfl) | (refine xc_false ?_ ?_; exact rfl) | ((with_reducible apply xs_guard); exact rfl; exact rfl; intro c hc; (fail_if_success (have : true = c := hc)); (fail_if_success (have : false = c := hc)); cases c) | (refine xc_if rfl (fun hc => ?_) (fun hc => ?_)) | (refine xc_cond rfl (fun hc => ?_) (fun hc => ?_)))
        first | refine rt (hq := ?_) | refine rt' (hq := ?_)
        exact fin _ _ (hA.only (hs.only0 rfl))
end Go.Proofs.YtjooegonmdmajaaX
