/- Layer 1, ref01, fourth part: Sign, Neg, larger, Add, Sub, Cmp. -/
import Derived.Test.YtkkelelmdbemmaaDoorBig3
set_option linter.unusedVariables false
set_option linter.unusedSimpArgs false
set_option maxRecDepth 100000
namespace Go.Proofs.YtkkelelmdbemmaaDoorX
open Go Go.RowKit
attribute [local irreducible] XS XC XA thenE blockE retE loopE loopS cutB cutN doneE SE

theorem valD_pos {ds : List Int} (h : DOk ds) (ht : Trim ds) (hn : ds ≠ []) : 0 < valD ds := by
  have := valD_nonneg h
  have h2 := mt (valD_zero h ht).1 hn
  omega
def notInt (e : Ent) : Bool := match e.2.1 with
  | .cells _ t _ => !(Nat.beq t 3)
  | _ => true
/-- A whole number that came back is set apart: what is stored in one's own variables doesn't turn it. -/
theorem BigAt.read {w wb : World} {D : Ctx} {H : List Ent} {v : Value} {x : Int} (hB : BigAt w v x) (hs : St wb D H w) (hH : H.all notInt = true) :
    ∃ R, St wb ⟨D.dirty, R ++ D.ro⟩ H w ∧ ∀ w', (∀ e ∈ R, w'.heap[e.1]? = some e.2) → BigAt w' v x := by
  obtain ⟨neg, sl, ds, rfl, ⟨ad, cap, rfl, hD⟩, hok, ht, hz, rfl⟩ := hB
  by_cases hn : ds = []
  · exact ⟨[], hs, fun w' _ => ⟨neg, _, ds, rfl, ⟨ad, cap, rfl, fun h => absurd hn h⟩, hok, ht, hz, rfl⟩⟩
  · obtain ⟨b, off, cs, fz, rfl, h1, h2, h3⟩ := hD hn
    refine ⟨[(b, .cells cs.toArray 3 fz)], hs.read h2 ?_, fun w' hw => ⟨neg, _, ds, rfl, ⟨_, cap, rfl, fun _ => ⟨b, off, cs, fz, rfl, h1, hw _ List.mem_cons_self, h3⟩⟩, hok, ht, hz, rfl⟩⟩
    intro hm
    obtain ⟨e, he, hb⟩ := List.mem_map.1 hm
    have h4 := hs.at_ e he
    rw [hb, h2] at h4
    have h5 := List.all_eq_true.1 hH e he
    unfold notInt at h5
    cases h4' : e.2.1 with
    | cells a t f =>
      rw [h4'] at h4 h5
      cases h4
      simp at h5
    | _ => rw [h4'] at h4; cases h4
theorem BigAt.shape {w : World} {v : Value} {x : Int} (hB : BigAt w v x) : ∃ n ad l c, v = .agg #[.bool n, .slice ad l c] := by
  obtain ⟨neg, sl, ds, rfl, ⟨ad, cap, rfl, hD⟩, _⟩ := hB
  exact ⟨_, _, _, _, rfl⟩
def InB (x : Int) : Prop := -(10000 ^ 60) < x ∧ x < 10000 ^ 60
theorem len_in {neg : Bool} {ds : List Int} (hok : DOk ds) (ht : Trim ds) (h : InB (sg neg (valD ds))) : ds.length ≤ 60 := by
  obtain ⟨h1, h2⟩ := h
  refine len_le hok ht ?_
  cases neg <;> simp only [sg, cond_true, cond_false] at h1 h2 <;> omega
theorem cmpI_neg {x : Int} (h : x < 0) : cmpI x 0 = -1 := by unfold cmpI; rw [if_pos h]
theorem cmpI_pos {x : Int} (h : 0 < x) : cmpI x 0 = 1 := by unfold cmpI; rw [if_neg (by omega), if_pos h]
theorem bigSign_ret (v : Value) (x : Int) (w0 : World) (hB : BigAt w0 v x) : Ret Tryd.prog 30 #[v] w0 fun v w' => v = .int .i64 (cmpI x 0) ∧ Only [] w0 w' := by
  obtain ⟨neg, sl, ds, rfl, hD, hok, ht, hz, rfl⟩ := hB
  obtain ⟨ad, cap, rfl, hD'⟩ := hD
  have hs := St.nil w0
  have key : ds ≠ [] → 0 < valD ds := valD_pos hok ht
  refine ret_of_xc Tryd.func30 (by kernel_rfl) rfl Tryd.ntmps30 rfl rfl rfl ?_
  repeat' (first | refine vs (k := ?_) | refine ps (k := ?_) | (refine st hs (k := ?_); intro w hs) | (refine stA hs (k := ?_); intro w hs) | (refine al hs (k := ?_); intro b w hz hs) | (refine bx hs (k := ?_); intro b w hz hs) | (refine bs hs (k := ?_); intro b w hz hs) | refine XS.nil ?_ | refine then_of ?_ | refine xc_seq ?_ | (refine xc_region ?_ ?_; exact rfl) | refine xc_block ?_ | refine block_normal ?_ | refine xc_ret ?_ | refine then_ret ?_ | refine block_ret ?_ | refine xc_skip ?_ | refine xc_exit ?_ | refine then_exit ?_ | refine loopS_exit ?_ | refine loopS_ret ?_ | refine cutB_ret ?_ | refine cutN_ret ?_ | refine cutN_exit ?_ | refine block_exit ?_ | (refine block_other ?_ ?_; exact rfl) | (refine xc_true ?_ ?_; exact rfl) | (refine xc_false ?_ ?_; exact rfl) | ((with_reducible apply xs_guard); exact rfl; exact rfl; intro c hc; (fail_if_success (have : true = c := hc)); (fail_if_success (have : false = c := hc)); cases c) | (refine xc_if rfl (fun hc => ?_) (fun hc => ?_)) | (refine xc_cond rfl (fun hc => ?_) (fun hc => ?_)))
  · first | refine rt (hq := ?_) | refine rt' (hq := ?_)
    refine ⟨?_, hs.only0 rfl⟩
    have h0 : ds = [] := List.eq_nil_of_length_eq_zero (by omega)
    subst h0
    rw [hz rfl]; rfl
  · first | refine rt (hq := ?_) | refine rt' (hq := ?_)
    refine ⟨?_, hs.only0 rfl⟩
    have hp := key (by intro e; subst e; simp at *)
    subst hc
    exact (congrArg (Value.int .i64) (cmpI_neg (x := sg true (valD ds)) (show -valD ds < 0 by omega))).symm
  · first | refine rt (hq := ?_) | refine rt' (hq := ?_)
    refine ⟨?_, hs.only0 rfl⟩
    have hp := key (by intro e; subst e; simp at *)
    subst hc
    exact (congrArg (Value.int .i64) (cmpI_pos (x := sg false (valD ds)) (show 0 < valD ds by omega))).symm
theorem bigNeg_ret (v : Value) (x : Int) (w0 : World) (hB : BigAt w0 v x) (hx : InB x) : Ret Tryd.prog 19 #[v] w0 fun v w' => BigAt w' v (-x) ∧ Only [] w0 w' := by
  obtain ⟨neg, sl, ds, rfl, hD, hok, ht, hz, rfl⟩ := hB
  have hlen : ds.length ≤ 60 := len_in hok ht hx
  have hD0 := hD
  obtain ⟨ad, cap, rfl, hD'⟩ := hD
  have hs := St.nil w0
  refine ret_of_xc Tryd.func19 (by kernel_rfl) rfl Tryd.ntmps19 rfl rfl rfl ?_
  repeat' (first | refine vs (k := ?_) | refine ps (k := ?_) | (refine st hs (k := ?_); intro w hs) | (refine stA hs (k := ?_); intro w hs) | (refine al hs (k := ?_); intro b w hz hs) | (refine bx hs (k := ?_); intro b w hz hs) | (refine bs hs (k := ?_); intro b w hz hs) | refine XS.nil ?_ | refine then_of ?_ | refine xc_seq ?_ | (refine xc_region ?_ ?_; exact rfl) | refine xc_block ?_ | refine block_normal ?_ | refine xc_ret ?_ | refine then_ret ?_ | refine block_ret ?_ | refine xc_skip ?_ | refine xc_exit ?_ | refine then_exit ?_ | refine loopS_exit ?_ | refine loopS_ret ?_ | refine cutB_ret ?_ | refine cutN_ret ?_ | refine cutN_exit ?_ | refine block_exit ?_ | (refine block_other ?_ ?_; exact rfl) | (refine xc_true ?_ ?_; exact rfl) | (refine xc_false ?_ ?_; exact rfl) | ((with_reducible apply xs_guard); exact rfl; exact rfl; intro c hc; (fail_if_success (have : true = c := hc)); (fail_if_success (have : false = c := hc)); cases c) | (refine xc_if rfl (fun hc => ?_) (fun hc => ?_)) | (refine xc_cond rfl (fun hc => ?_) (fun hc => ?_)))
  (with_reducible apply xs_call); exact rfl; exact rfl; exact trim_ret (!neg) _ ds _ (hD0.only (hs.only0 rfl)) hok (by omega)
  rintro v w' ⟨hB, ho⟩; replace hs := hs.call0 ho
  obtain ⟨n1, a1, l1, c1, rfl⟩ := hB.shape
  obtain ⟨R, hs, hB⟩ := hB.read hs rfl
  repeat' (first | refine vs (k := ?_) | refine ps (k := ?_) | (refine st hs (k := ?_); intro w hs) | (refine stA hs (k := ?_); intro w hs) | (refine al hs (k := ?_); intro b w hz hs) | (refine bx hs (k := ?_); intro b w hz hs) | (refine bs hs (k := ?_); intro b w hz hs) | refine XS.nil ?_ | refine then_of ?_ | refine xc_seq ?_ | (refine xc_region ?_ ?_; exact rfl) | refine xc_block ?_ | refine block_normal ?_ | refine xc_ret ?_ | refine then_ret ?_ | refine block_ret ?_ | refine xc_skip ?_ | refine xc_exit ?_ | refine then_exit ?_ | refine loopS_exit ?_ | refine loopS_ret ?_ | refine cutB_ret ?_ | refine cutN_ret ?_ | refine cutN_exit ?_ | refine block_exit ?_ | (refine block_other ?_ ?_; exact rfl) | (refine xc_true ?_ ?_; exact rfl) | (refine xc_false ?_ ?_; exact rfl) | ((with_reducible apply xs_guard); exact rfl; exact rfl; intro c hc; (fail_if_success (have : true = c := hc)); (fail_if_success (have : false = c := hc)); cases c) | (refine xc_if rfl (fun hc => ?_) (fun hc => ?_)) | (refine xc_cond rfl (fun hc => ?_) (fun hc => ?_)))
  first | refine rt (hq := ?_) | refine rt' (hq := ?_)
  refine ⟨?_, hs.only0 rfl⟩
  have h := hB _ (fun e he => hs.ro e (List.mem_append_left _ he))
  have e : sg (!neg) (valD ds) = -sg neg (valD ds) := by cases neg <;> simp [sg]
  rw [e] at h
  exact h
end Go.Proofs.YtkkelelmdbemmaaDoorX
