/- rbtree: Fold. -/
import Derived.Test.YtjooegonmdmajaaRb15
set_option linter.unusedVariables false
set_option linter.unusedSimpArgs false
set_option maxRecDepth 100000
namespace Go.Proofs.YtjooegonmdmajaaX
open Go Go.RowKit
attribute [local irreducible] XS XC XA thenE blockE retE loopE loopS cutB cutN doneE SE
abbrev boolO (b : Bool) : Obj := .cells #[.bool b] 4 (0, 0)
abbrev ptrO (tb : Nat) : Obj := .cells #[.pointer (some ⟨tb, 0, none⟩)] 24 (0, 0)
abbrev slO (v : Value) : Obj := .cells #[v] 22 (0, 0)
def RB.fold {α : Type} (q : α → Bool) : RB α → List α
  | .nil => []
  | .node l x r _ => bif q x then l.list ++ x :: RB.fold q r else RB.fold q l
theorem RB.fold_len {α : Type} (q : α → Bool) : ∀ t : RB α, (RB.fold q t).length ≤ t.list.length
  | .nil => Nat.le_refl _
  | .node l x r c => by
    have := RB.fold_len q l
    have := RB.fold_len q r
    simp only [RB.fold, RB.list]
    cases q x <;> simp only [cond_true, cond_false, List.length_append, List.length_cons] <;> omega
theorem blocks_ne {w : World} {a b : Nat} {ca cb : Array Value} {ta tb : TypeId} {fa fb : Nat × Nat} (h : w.heap[a]? = some (.cells ca ta fa)) (k : w.heap[b]? = some (.cells cb tb fb)) (hne : ta ≠ tb) : a ≠ b := fun e => by
  subst e
  rw [h] at k
  cases k
  exact hne rfl
theorem DAt.keepI {w w' : World} {v : Value} {xs : List Int} {F : List Nat} (h : DAt w v xs) (ho : Only F w w') (hF : ∀ b ∈ F, ∀ cs fz, w.heap[b]? ≠ some (.cells cs 3 fz)) : DAt w' v xs := by
  obtain ⟨ad, cap, rfl, h⟩ := h
  refine ⟨ad, cap, rfl, fun hn => ?_⟩
  obtain ⟨b, off, cs, fz, h1, h2, h3, h4⟩ := h hn
  exact ⟨b, off, cs, fz, h1, h2, ho.block h3 (fun hb => hF b hb _ _ h3), h4⟩
set_option maxHeartbeats 1000000 in
theorem add6_ret (b7 b2 b6 tb : Nat) (p : Option Addr) (n0 : Int) (acc m : List Int) (va vm : Value) (w0 : World) (h7 : w0.heap[b7]? = some (boolO (decide (acc ≠ [])))) (h2 : w0.heap[b2]? = some (ptrO tb)) (h6 : w0.heap[b6]? = some (slO va)) (hT : w0.heap[tb]? = some (treeO p n0))
    (hA : DAt w0 va acc) (hM : DAt w0 vm m) (hm : m ≠ []) (hlen : acc.length + m.length ≤ 1000000) :
    Ret Try.prog 64 #[vm, .pointer (some ⟨b7, 0, none⟩), .pointer (some ⟨b2, 0, none⟩), .pointer (some ⟨b6, 0, none⟩)] w0 fun v w' => ∃ va', w'.heap[b7]? = some (boolO true) ∧ w'.heap[b6]? = some (slO va') ∧ DAt w' va' (acc ++ m) ∧ Only [b7, b6] w0 w' := by
  have n1 : b2 ≠ tb := blocks_ne h2 hT (by decide)
  have n2 : b6 ≠ tb := blocks_ne h6 hT (by decide)
  have n3 : b7 ≠ tb := blocks_ne h7 hT (by decide)
  have n4 : b6 ≠ b2 := blocks_ne h6 h2 (by decide)
  have n5 : b7 ≠ b2 := blocks_ne h7 h2 (by decide)
  have n6 : b7 ≠ b6 := blocks_ne h7 h6 (by decide)
  obtain ⟨ada, ca, rfl, _⟩ := id hA
  obtain ⟨adm, cm, rfl, _⟩ := id hM
  have hs := ((((St.nil w0).track hT (by simp)).track h2 (by simpa using n1)).track h6 (by simp [n2, n4])).track h7 (by simp [n3, n5, n6])
  have hI : ∀ b ∈ [b7, b6], ∀ cs fz, w0.heap[b]? ≠ some (.cells cs 3 fz) := fun b hb cs fz e => by
    simp only [List.mem_cons, List.not_mem_nil, or_false] at hb
    rcases hb with rfl | rfl
    · rw [h7] at e; cases e
    · rw [h6] at e; cases e
  by_cases ha : acc = []
  · subst ha
    rw [show decide (([] : List Int) ≠ []) = false by simp] at hs
    refine ret_of_xc Try.func64 (by kernel_rfl) rfl Try.ntmps64 rfl rfl rfl ?_
    repeat' (first | refine vs (k := ?_) | refine ps (k := ?_) | (refine st hs (k := ?_); intro w hs) | (refine stA hs (k := ?_); intro w hs) | (refine al hs (k := ?_); intro b w hz hs) | (refine bx hs (k := ?_); intro b w hz hs) | (refine bs hs (k := ?_); intro b w hz hs) | refine XS.nil ?_ | refine then_of ?_ | refine xc_seq ?_ | (refine xc_region ?_ ?_; exact rfl) | refine xc_block ?_ | refine block_normal ?_ | refine xc_ret ?_ | refine then_ret ?_ | refine block_ret ?_ | refine xc_skip ?_ | refine xc_exit ?_ | refine then_exit ?_ | refine loopS_exit ?_ | refine loopS_ret ?_ | refine cutB_ret ?_ | refine cutN_ret ?_ | refine cutN_exit ?_ | refine block_exit ?_ | (refine block_other ?_ ?_; exact rfl) | (refine xc_true ?_ ?_; exact rfl) | (refine xc_false ?_ ?_; exact rfl) | ((with_reducible apply xs_guard); exact rfl; exact rfl; intro c hc; (fail_if_success (have : true = c := hc)); (fail_if_success (have : false = c := hc)); cases c) | (refine xc_if rfl (fun hc => ?_) (fun hc => ?_)) | (refine xc_cond rfl (fun hc => ?_) (fun hc => ?_)))
    first | refine rt' (vs := []) (hr := resOk_nil) (hq := ?_) | refine rt (vs := []) (hr := resOk_nil) (hq := ?_)
    have ho : Only [b7, b6] w0 _ := hs.onlyF [b7, b6] (by simp [h2, hT]) (by simp [D0])
    exact ⟨_, hs.get At.head, hs.get (At.tail At.head), hM.keepI ho hI, ho⟩
  · rw [show decide (acc ≠ []) = true by simp [ha]] at hs
    obtain ⟨RA, hs, hA⟩ := hA.read hs rfl
    obtain ⟨RM, hs, hM⟩ := hM.read hs rfl
    refine ret_of_xc Try.func64 (by kernel_rfl) rfl Try.ntmps64 rfl rfl rfl ?_
    repeat' (first | refine vs (k := ?_) | refine ps (k := ?_) | (refine st hs (k := ?_); intro w hs) | (refine stA hs (k := ?_); intro w hs) | (refine al hs (k := ?_); intro b w hz hs) | (refine bx hs (k := ?_); intro b w hz hs) | (refine bs hs (k := ?_); intro b w hz hs) | refine XS.nil ?_ | refine then_of ?_ | refine xc_seq ?_ | (refine xc_region ?_ ?_; exact rfl) | refine xc_block ?_ | refine block_normal ?_ | refine xc_ret ?_ | refine then_ret ?_ | refine block_ret ?_ | refine xc_skip ?_ | refine xc_exit ?_ | refine then_exit ?_ | refine loopS_exit ?_ | refine loopS_ret ?_ | refine cutB_ret ?_ | refine cutN_ret ?_ | refine cutN_exit ?_ | refine block_exit ?_ | (refine block_other ?_ ?_; exact rfl) | (refine xc_true ?_ ?_; exact rfl) | (refine xc_false ?_ ?_; exact rfl) | ((with_reducible apply xs_guard); exact rfl; exact rfl; intro c hc; (fail_if_success (have : true = c := hc)); (fail_if_success (have : false = c := hc)); cases c) | (refine xc_if rfl (fun hc => ?_) (fun hc => ?_)) | (refine xc_cond rfl (fun hc => ?_) (fun hc => ?_)))
    refine dr [] hs (k := ?_); intro hX w hs
    refine tk 0 hX (k := ?_)
    refine tk 1 hX (k := ?_)
    refine tk 2 hX (k := ?_)
    refine tk 3 hX (k := ?_)
    refine tk 4 hX (k := ?_)
    refine tk 5 hX (k := ?_)
    refine dt 6 hX (k := ?_)
    (with_reducible apply xs_call); exact rfl; exact rfl; exact both_ret _ _ acc m ha hm hlen _ (hA _ (fun e he => hs.ro e (by simp [he]))) (hM _ (fun e he => hs.ro e (by simp [he])))
    rintro v w' ⟨h3, ho⟩; replace hs := hs.call0 ho; obtain ⟨ad3, cp3, rfl, _⟩ := id h3; obtain ⟨R3, hs, h3⟩ := (h3).read hs rfl
    repeat' (first | refine vs (k := ?_) | refine ps (k := ?_) | (refine st hs (k := ?_); intro w hs) | (refine stA hs (k := ?_); intro w hs) | (refine al hs (k := ?_); intro b w hz hs) | (refine bx hs (k := ?_); intro b w hz hs) | (refine bs hs (k := ?_); intro b w hz hs) | refine XS.nil ?_ | refine then_of ?_ | refine xc_seq ?_ | (refine xc_region ?_ ?_; exact rfl) | refine xc_block ?_ | refine block_normal ?_ | refine xc_ret ?_ | refine then_ret ?_ | refine block_ret ?_ | refine xc_skip ?_ | refine xc_exit ?_ | refine then_exit ?_ | refine loopS_exit ?_ | refine loopS_ret ?_ | refine cutB_ret ?_ | refine cutN_ret ?_ | refine cutN_exit ?_ | refine block_exit ?_ | (refine block_other ?_ ?_; exact rfl) | (refine xc_true ?_ ?_; exact rfl) | (refine xc_false ?_ ?_; exact rfl) | ((with_reducible apply xs_guard); exact rfl; exact rfl; intro c hc; (fail_if_success (have : true = c := hc)); (fail_if_success (have : false = c := hc)); cases c) | (refine xc_if rfl (fun hc => ?_) (fun hc => ?_)) | (refine xc_cond rfl (fun hc => ?_) (fun hc => ?_)))
    refine dn (k := ?_)
    refine tk 7 hX (k := ?_)
    refine en (k := ?_)
    repeat' (first | refine vs (k := ?_) | refine ps (k := ?_) | (refine st hs (k := ?_); intro w hs) | (refine stA hs (k := ?_); intro w hs) | (refine al hs (k := ?_); intro b w hz hs) | (refine bx hs (k := ?_); intro b w hz hs) | (refine bs hs (k := ?_); intro b w hz hs) | refine XS.nil ?_ | refine then_of ?_ | refine xc_seq ?_ | (refine xc_region ?_ ?_; exact rfl) | refine xc_block ?_ | refine block_normal ?_ | refine xc_ret ?_ | refine then_ret ?_ | refine block_ret ?_ | refine xc_skip ?_ | refine xc_exit ?_ | refine then_exit ?_ | refine loopS_exit ?_ | refine loopS_ret ?_ | refine cutB_ret ?_ | refine cutN_ret ?_ | refine cutN_exit ?_ | refine block_exit ?_ | (refine block_other ?_ ?_; exact rfl) | (refine xc_true ?_ ?_; exact rfl) | (refine xc_false ?_ ?_; exact rfl) | ((with_reducible apply xs_guard); exact rfl; exact rfl; intro c hc; (fail_if_success (have : true = c := hc)); (fail_if_success (have : false = c := hc)); cases c) | (refine xc_if rfl (fun hc => ?_) (fun hc => ?_)) | (refine xc_cond rfl (fun hc => ?_) (fun hc => ?_)))
    first | refine rt' (vs := []) (hr := resOk_nil) (hq := ?_) | refine rt (vs := []) (hr := resOk_nil) (hq := ?_)
    have ho : Only [b7, b6] w0 _ := hs.onlyF [b7, b6] (by simp [h2, hT]) (by simp [D0])
    exact ⟨_, hs.get At.head, hs.get (At.tail At.head), (h3 _ (fun e he => hs.ro e (by simp [he]))), ho⟩
end Go.Proofs.YtjooegonmdmajaaX
