/- A small calculus for walking Go code: frames as functions from slots to values, a list of known heap blocks; one law for each kind of operation. Nothing of the program stands here. -/
import Derived.Calls
import Derived.Tactics
import Derived.Orders
import Derived.Laws.Sem
import Derived.Laws.Cells
import Derived.Laws.CopyRow
import Derived.Laws.Externs
import Derived.KernelRfl
import Derived.Below
import Derived.Deep.LoopGhost
import Derived.Laws.AppendOwn
import Derived.Laws.MakeOwn
set_option linter.unusedVariables false
set_option linter.unusedSimpArgs false
namespace Go.Proofs.YtkkelelmdbemmaaDoorX
open Go Go.RowKit

/-! ### 1. Frames -/
abbrev Env := Nat → Value
def upd (env : Env) (t : Nat) (v : Value) : Env := fun i => bif Nat.beq i t then v else env i
def updO (env : Env) : Option Nat → Value → Env
  | some t, v => upd env t v
  | none, _ => env
def ev (env : Env) : Operand → Value
  | .tmp t => env t
  | .const v => v
  | .global g => .pointer (some ⟨g, 0, none⟩)
  | .func f => .func (.func f) #[] #[]

structure Fits (n : Nat) (env : Env) (a : Act) : Prop where
  defers : a.defers = []
  size : a.tmps.size = n
  at_ : ∀ i, i < n → a.tmps[i]? = some (env i)
  out : ∀ i, n ≤ i → env i = undef

theorem upd_same (env : Env) (t : Nat) (v : Value) : upd env t v t = v := by simp [upd]
theorem upd_ne (env : Env) {t i : Nat} (v : Value) (h : i ≠ t) : upd env t v i = env i := by
  simp only [upd]
  cases hb : Nat.beq i t
  · rfl
  · exact absurd (Nat.eq_of_beq_eq_true hb) h

theorem Fits.get {n : Nat} {env : Env} {a : Act} (h : Fits n env a) (i : Nat) : a.tmps.getD i undef = env i := by
  by_cases hi : i < n
  · simp [Array.getD_eq_getD_getElem?, h.at_ i hi]
  · have hs : a.tmps.size ≤ i := by rw [h.size]; omega
    rw [h.out i (by omega)]
    simp [Array.getD_eq_getD_getElem?, Array.getElem?_eq_none hs]

theorem Fits.eval {n : Nat} {env : Env} {a : Act} (h : Fits n env a) : a.eval = ev env := by
  funext x
  cases x with
  | tmp t => exact h.get t
  | const v => rfl
  | global g => rfl
  | func f => rfl

theorem Fits.put {n : Nat} {env : Env} {a : Act} (h : Fits n env a) {d : Option Nat} (hd : ∀ t, d = some t → t < n) (v : Value) : Fits n (updO env d v) (a.put d v) := by
  cases d with
  | none => exact h
  | some t =>
    have ht := hd t rfl
    refine ⟨h.defers, by simp [Act.put, h.size], fun i hi => ?_, fun i hi => ?_⟩
    · simp only [Act.put, updO]
      by_cases e : i = t
      · subst e
        rw [upd_same, Array.getElem?_setIfInBounds]
        simp [h.size, hi]
      · rw [upd_ne _ _ e, Array.getElem?_setIfInBounds]
        simp [Ne.symm e, h.at_ i hi]
    · simp only [updO]
      rw [upd_ne _ _ (by omega)]
      exact h.out i hi

/-- What a region's guard says. -/
def wantedE (ops : Array Oper) (env : Env) (g : Option (Nat × Bool)) : Bool :=
  match g with
  | none => true
  | some (j, want) => match (ops[j]?).bind (·.dst) with
    | none => false
    | some d => match env d with
      | .bool b => b == want
      | _ => false

theorem Fits.wanted {n : Nat} {env : Env} {a : Act} (h : Fits n env a) (ops : Array Oper) (o : Oper) :
    Region.wanted o (yielded ops a.tmps) = wantedE ops env o.guard := by
  unfold Region.wanted wantedE
  cases hg : o.guard with
  | none => rfl
  | some jw =>
    obtain ⟨j, want⟩ := jw
    simp only [yielded]
    cases hd : (ops[j]?).bind (·.dst) with
    | none => simp
    | some d =>
      simp only [Option.bind_some]
      by_cases hi : d < n
      · rw [h.at_ d hi]
        cases env d <;> simp
      · have hs : a.tmps.size ≤ d := by rw [h.size]; exact Nat.le_of_not_lt hi
        rw [Array.getElem?_eq_none hs, h.out d (Nat.le_of_not_lt hi)]
        simp [undef]

/-! ### 2. What follows, in frames as functions -/
def lift (n : Nat) (QE : Exit → Env → World → Prop) : Exit → Act → World → Prop := fun e a w => ∃ env, Fits n env a ∧ QE e env w

def dOk (n : Nat) (o : Oper) : Bool := match o.dst with
  | some d => Nat.blt d n
  | none => true
theorem dOk_lt {n : Nat} {o : Oper} (h : dOk n o = true) : ∀ t, o.dst = some t → t < n := by
  intro t ht
  simp only [dOk, ht] at h
  exact Nat.le_of_ble_eq_true h

def XS (P : Program) (ops : Array Oper) (QE : Exit → Env → World → Prop) (n : Nat) (l : List Oper) (env : Env) (w : World) : Prop :=
  l.all (dOk n) = true → ∀ a, Fits n env a → wpList P ops (lift n QE) l a w

def XC (P : Program) (QE : Exit → Env → World → Prop) (n : Nat) (c : Code) (env : Env) (w : World) : Prop :=
  ∀ a, Fits n env a → c.wp P (lift n QE) a w

section
variable {P : Program} {ops : Array Oper} {QE : Exit → Env → World → Prop} {n : Nat} {rest : List Oper} {o : Oper} {env : Env} {w w' : World}

theorem XS.nil (h : QE .normal env w) : XS P ops QE n [] env w := fun _ a hf => wpList_nil ⟨env, hf, h⟩

theorem XS.upon (hw : wantedE ops env o.guard = true)
    (h : ∀ a, Fits n env a → dOk n o = true → ∀ K : Act → World → Prop, (∀ a' w', (∃ env', Fits n env' a' ∧ XS P ops QE n rest env' w') → K a' w') → o.wp P a w K (lift n QE)) :
    XS P ops QE n (o :: rest) env w := by
  intro hok a hf
  simp only [List.all_cons, Bool.and_eq_true] at hok
  refine wpList_step fun K hK => ?_
  rw [if_pos (by rw [hf.wanted, hw])]
  exact h a hf hok.1 K (fun a' w' ⟨env', hf', hx⟩ => hK _ _ (hx hok.2 a' hf'))

theorem XS.value {v : Value} (hw : wantedE ops env o.guard = true) (hr : (execOp (ev env) o).run P w = .ok (.value v) w')
    (k : XS P ops QE n rest (updO env o.dst v) w') : XS P ops QE n (o :: rest) env w :=
  XS.upon hw fun a hf hd K hK => by
    unfold Oper.wp
    rw [hf.eval, hr]
    exact hK _ _ ⟨_, hf.put (dOk_lt hd) v, k⟩

theorem XS.skipped (hw : wantedE ops env o.guard = true) (hr : (execOp (ev env) o).run P w = .ok .skip w')
    (k : XS P ops QE n rest (updO env o.dst undef) w') : XS P ops QE n (o :: rest) env w :=
  XS.upon hw fun a hf hd K hK => by
    unfold Oper.wp
    rw [hf.eval, hr]
    exact hK _ _ ⟨_, hf.put (dOk_lt hd) undef, k⟩

/-- The guard says no. -/
theorem XS.pass (hw : wantedE ops env o.guard = false) (k : XS P ops QE n rest (updO env o.dst undef) w) : XS P ops QE n (o :: rest) env w := by
  intro hok a hf
  simp only [List.all_cons, Bool.and_eq_true] at hok
  refine wpList_step fun K hK => ?_
  rw [if_neg (by rw [hf.wanted, hw]; simp)]
  exact hK _ _ (k hok.2 _ (hf.put (dOk_lt hok.1) undef))

/-- The frame under another spelling. -/
theorem XS.respell {l : List Oper} {env' : Env} (he : ∀ i, env' i = env i) (k : XS P ops QE n l env' w) : XS P ops QE n l env w := by
  have : env' = env := funext he
  rwa [this] at k
theorem XC.respell {c : Code} {env' : Env} (he : ∀ i, env' i = env i) (k : XC P QE n c env' w) : XC P QE n c env w := by
  have : env' = env := funext he
  rwa [this] at k
end

/-! ### 3. Calls -/
/-- A call of f: it returns, and what it returns is as Q says: a function with a body, or one that the model carries out itself. -/
def Ret (P : Program) (f : FuncId) (args : Array Value) (w : World) (Q : Value → World → Prop) : Prop :=
  ((callFunc f args).run P w = .ok (.enter f args) w ∧ Calls P f args w fun e w' => ∃ v, e = .returned v ∧ Q v w') ∨
  ∃ v w', (callFunc f args).run P w = .ok (.value v) w' ∧ Q v w'
theorem Ret.mono {P : Program} {f : FuncId} {args : Array Value} {w : World} {Q Q' : Value → World → Prop} (h : Ret P f args w Q) (hq : ∀ v w', Q v w' → Q' v w') : Ret P f args w Q' := by
  rcases h with ⟨h1, h2⟩ | ⟨v, w', h1, h2⟩
  · exact .inl ⟨h1, h2.mono fun e w' ⟨v, he, hv⟩ => ⟨v, he, hq v w' hv⟩⟩
  · exact .inr ⟨v, w', h1, hq v w' h2⟩

def entersB (P : Program) (f : FuncId) : Bool := match P.funcs[f]? with
  | none => false
  | some fn => !(fn.name == "runtime.NumGoroutine") && fn.body.isSome
theorem enters_run {P : Program} {f : FuncId} (h : entersB P f = true) (args : Array Value) (w : World) : (callFunc f args).run P w = .ok (.enter f args) w := by
  unfold entersB at h
  cases hf : P.funcs[f]? with
  | none => simp [hf] at h
  | some fn =>
    simp only [hf, Bool.and_eq_true, Bool.not_eq_true'] at h
    have h1 : fn.name ≠ "runtime.NumGoroutine" := by simpa using h.1
    have h2 : fn.body ≠ none := by intro hb; simp [hb] at h
    simp [callFunc, program, Sem.run, hf, h1, h2, Sem.run_bind]

/-- The value of a result. -/
def rsem (tmps : Array Value) : ResultVar → Sem Value
  | .tmp t => pure (tmps.getD t undef)
  | .cell a t => do loadVar t (← asAddr (tmps.getD a undef))
def resIs (P : Program) (env : Env) (w : World) (v : Value) : ResultVar → Prop
  | .tmp t => env t = v
  | .cell a T => ∃ ad, env a = .pointer (some ad) ∧ (loadVar T ad).run P w = .ok v w
theorem run_rsem {P : Program} {n : Nat} {env : Env} {a : Act} {w : World} {v : Value} {r : ResultVar} (hf : Fits n env a) (h : resIs P env w v r) : (rsem a.tmps r).run P w = .ok v w := by
  cases r with
  | tmp t => simp only [rsem, Sem.run_pure, hf.get]; rw [show env t = v from h]
  | cell ad t =>
    obtain ⟨p, h1, h2⟩ := h
    simp only [rsem, Sem.run_bind, hf.get, h1, asAddr, Sem.run_pure, Result.andThen_ok, h2]
def resOk (P : Program) (env : Env) (w : World) : List ResultVar → List Value → Prop
  | [], [] => True
  | r :: rs, v :: vs => resIs P env w v r ∧ resOk P env w rs vs
  | _, _ => False
def packed (vs : List Value) : Value := match vs with
  | [v] => v
  | vs => .tuple vs.toArray
theorem results_eq (fn : Func) (tmps : Array Value) : results fn tmps = (do
    let vs ← fn.results.mapM (rsem tmps)
    pure (if h : vs.size = 1 then vs[0] else .tuple vs)) := by
  unfold results
  congr 1

theorem run_results {P : Program} {n : Nat} {env : Env} {a : Act} {w : World} (hf : Fits n env a) {fn : Func} {rs : List ResultVar} {vs : List Value} (hr : fn.results = rs.toArray) (hl : rs.length ≤ 4)
    (h : resOk P env w rs vs) : (results fn a.tmps).run P w = .ok (packed vs) w := by
  rw [results_eq, hr]
  match rs, vs, h with
  | [], [], _ => simp [packed]
  | [r], [v], ⟨h1, _⟩ => simp [packed, run_rsem hf h1]
  | [r, s], [v, u], ⟨h1, h2, _⟩ => simp [packed, run_rsem hf h1, run_rsem hf h2]
  | [r, s, t], [v, u, x], ⟨h1, h2, h3, _⟩ => simp [packed, run_rsem hf h1, run_rsem hf h2, run_rsem hf h3]
  | [r, s, t, q], [v, u, x, y], ⟨h1, h2, h3, h4, _⟩ => simp [packed, run_rsem hf h1, run_rsem hf h2, run_rsem hf h3, run_rsem hf h4]
  | _ :: _ :: _ :: _ :: _ :: _, _, _ => simp at hl

/-- The end of a function's body. -/
def retE (P : Program) (rs : List ResultVar) (Q : Value → World → Prop) : Exit → Env → World → Prop
  | .normal, env, w | .ret, env, w => ∃ vs, resOk P env w rs vs ∧ Q (packed vs) w
  | _, _, _ => False

def envOf (args : Array Value) : Env := fun i => args.toList.getD i undef

theorem fits_enter (args : Array Value) (n : Nat) (h : args.size ≤ n) : Fits n (envOf args) ⟨args ++ Array.replicate (n - args.size) undef, []⟩ := by
  refine ⟨rfl, by simp; omega, fun i hi => ?_, fun i hi => ?_⟩
  · by_cases h1 : i < args.size
    · rw [Array.getElem?_append_left h1]
      simp [envOf, List.getD_eq_getElem?_getD, h1]
    · rw [Array.getElem?_append_right (by omega)]
      simp [envOf, List.getD_eq_getElem?_getD, Array.getElem?_eq_none (Nat.le_of_not_lt h1)]
      rw [Array.getElem?_eq_getElem (by simp; omega)]
      simp
  · simp only [envOf, List.getD_eq_getElem?_getD, Array.getElem?_toList]
    rw [Array.getElem?_eq_none (by omega)]
    rfl

theorem ret_of_xc {P : Program} {f : FuncId} {fn : Func} {c : Code} {n : Nat} {args : Array Value} {w : World} {Q : Value → World → Prop} {rs : List ResultVar} (hf : P.funcs[f]? = some fn) (he : entersB P f = true)
    (hb : fn.body = some c) (hn : fn.ntmps = n) (hr : fn.results = rs.toArray) (hl : Nat.ble rs.length 4 = true) (ha : Nat.ble args.size n = true)
    (h : XC P (retE P rs Q) n c (envOf args) w) : Ret P f args w Q := by
  refine .inl ⟨enters_run he args w, calls_of_wp hf hb ?_⟩
  rw [hn]
  refine wp_mono (h _ (fits_enter args n (Nat.le_of_ble_eq_true ha))) fun e a w hq => ?_
  obtain ⟨env, hfit, hq⟩ := hq
  cases e with
  | normal => obtain ⟨vs, hv, hQ⟩ := hq; exact ⟨hfit.defers, _, run_results hfit hr (Nat.le_of_ble_eq_true hl) hv, _, rfl, hQ⟩
  | ret => obtain ⟨vs, hv, hQ⟩ := hq; exact ⟨hfit.defers, _, run_results hfit hr (Nat.le_of_ble_eq_true hl) hv, _, rfl, hQ⟩
  | _ => exact hq.elim

theorem ret_calls {P : Program} {f : FuncId} {args : Array Value} {w : World} {Q : Value → World → Prop} (he : entersB P f = true) (h : Ret P f args w Q) : Calls P f args w fun e w' => ∃ v, e = .returned v ∧ Q v w' := by
  rcases h with ⟨_, h⟩ | ⟨v, w', h, _⟩
  · exact h
  · rw [enters_run he args w] at h; cases h
/-! ### 4. Statements -/
section
variable {P : Program} {QE : Exit → Env → World → Prop} {n : Nat} {env : Env} {w : World}
def thenE (P : Program) (n : Nat) (y : Code) (QE : Exit → Env → World → Prop) : Exit → Env → World → Prop
  | .normal, env, w => XC P QE n y env w
  | e, env, w => QE e env w
theorem xc_seq {x y : Code} (h : XC P (thenE P n y QE) n x env w) : XC P QE n (.seq x y) env w := fun a hf =>
  wp_seq (wp_mono (h a hf) fun e a w ⟨env, hf, hq⟩ => by
    cases e with
    | normal => exact hq a hf
    | _ => exact ⟨env, hf, hq⟩)
theorem then_of {y : Code} (h : XC P QE n y env w) : thenE P n y QE .normal env w := h
theorem xc_skip (h : QE .normal env w) : XC P QE n .skip env w := fun a hf => wp_skip ⟨env, hf, h⟩
theorem xc_label {l : Nat} (h : QE .normal env w) : XC P QE n (.label l) env w := fun a hf => wp_label ⟨env, hf, h⟩
theorem xc_exit {id : Nat} (h : QE (.exit id) env w) : XC P QE n (.exit id) env w := fun a hf => wp_exit ⟨env, hf, h⟩
theorem xc_ret (h : QE .ret env w) : XC P QE n .ret env w := fun a hf => wp_ret ⟨env, hf, h⟩
theorem xc_true {c : Operand} {x y : Code} (hc : ev env c = .bool true) (h : XC P QE n x env w) : XC P QE n (.cond c x y) env w := fun a hf =>
  wp_cond_true (by rw [hf.eval, hc]) (h a hf)
theorem xc_false {c : Operand} {x y : Code} (hc : ev env c = .bool false) (h : XC P QE n y env w) : XC P QE n (.cond c x y) env w := fun a hf =>
  wp_cond_false (by rw [hf.eval, hc]) (h a hf)
theorem xc_cond {c : Operand} {x y : Code} {b : Bool} (hc : ev env c = .bool b) (h1 : b = true → XC P QE n x env w) (h2 : b = false → XC P QE n y env w) : XC P QE n (.cond c x y) env w := by
  cases b
  · exact xc_false hc (h2 rfl)
  · exact xc_true hc (h1 rfl)
/-- A test that is a proposition. -/
theorem xc_if {c : Operand} {x y : Code} {p : Prop} [Decidable p] (hc : ev env c = .bool (decide p)) (h1 : p → XC P QE n x env w) (h2 : ¬p → XC P QE n y env w) : XC P QE n (.cond c x y) env w :=
  xc_cond hc (fun h => h1 (of_decide_eq_true h)) (fun h => h2 (of_decide_eq_false h))
def blockE (id : Nat) (QE : Exit → Env → World → Prop) : Exit → Env → World → Prop
  | .exit id', env, w => if id' = id then QE .normal env w else QE (.exit id') env w
  | e, env, w => QE e env w
theorem xc_block {id : Nat} {c : Code} (h : XC P (blockE id QE) n c env w) : XC P QE n (.block id c) env w := fun a hf =>
  wp_block (wp_mono (h a hf) fun e a w ⟨env, hf, hq⟩ => by
    cases e with
    | exit id' =>
      simp only [blockE] at hq
      simp only [Exit.inBlock]
      split
      · rw [if_pos ‹_›] at hq; exact ⟨env, hf, hq⟩
      · rw [if_neg ‹_›] at hq; exact ⟨env, hf, hq⟩
    | _ => exact ⟨env, hf, hq⟩)
theorem block_exit {id : Nat} (h : QE .normal env w) : blockE id QE (.exit id) env w := by simp only [blockE, if_true]; exact h
theorem block_normal {id : Nat} (h : QE .normal env w) : blockE id QE .normal env w := h
theorem block_other {id id' : Nat} (hne : Nat.beq id' id = false) (h : QE (.exit id') env w) : blockE id QE (.exit id') env w := by
  have : id' ≠ id := Nat.ne_of_beq_eq_false hne
  simp only [blockE, if_neg this]; exact h
theorem block_ret {id : Nat} (h : QE .ret env w) : blockE id QE .ret env w := h
theorem then_ret {y : Code} (h : QE .ret env w) : thenE P n y QE .ret env w := h
theorem then_exit {y : Code} {id : Nat} (h : QE (.exit id) env w) : thenE P n y QE (.exit id) env w := h
def loopE (I : Nat → Env → World → Prop) (m : Nat) (QE : Exit → Env → World → Prop) : Exit → Env → World → Prop
  | .normal, env, w => ∃ m', m' < m ∧ I m' env w
  | e, env, w => QE e env w
/-- A loop: I m: what holds where a round begins, m a measure. -/
theorem xc_loop {c : Code} (I : Nat → Env → World → Prop) (m0 : Nat) (h0 : I m0 env w) (round : ∀ m env w, I m env w → XC P (loopE I m QE) n c env w) : XC P QE n (.loop c) env w := fun a hf =>
  wp_loop_ghost (fun m a w => ∃ env, Fits n env a ∧ I m env w) m0 ⟨env, hf, h0⟩ fun m a w ⟨env, hf, hI⟩ =>
    wp_mono (round m env w hI a hf) fun e a w ⟨env, hf, hq⟩ => by
      cases e with
      | normal => obtain ⟨m', hm, hI'⟩ := hq; exact ⟨m', hm, env, hf, hI'⟩
      | _ => exact ⟨env, hf, hq⟩
theorem loop_again {I : Nat → Env → World → Prop} {m m' : Nat} (hm : m' < m) (h : I m' env w) : loopE I m QE .normal env w := ⟨m', hm, h⟩
theorem loop_exit {I : Nat → Env → World → Prop} {m id : Nat} (h : QE (.exit id) env w) : loopE I m QE (.exit id) env w := h
theorem loop_ret {I : Nat → Env → World → Prop} {m : Nat} (h : QE .ret env w) : loopE I m QE .ret env w := h
end

/-! ### 5. Memory: known blocks -/
abbrev Ent := Nat × Obj × Bool
/-- Block b of the list, and the list with another content there. -/
inductive At : List Ent → Nat → Obj → Bool → (Obj → List Ent) → Prop
  | head {H : List Ent} {b : Nat} {o : Obj} {nw : Bool} : At ((b, o, nw) :: H) b o nw (fun o' => (b, o', nw) :: H)
  | tail {H : List Ent} {b : Nat} {o : Obj} {nw : Bool} {f : Obj → List Ent} {e : Ent} : At H b o nw f → At (e :: H) b o nw (fun o' => e :: f o')
theorem At.mem {H : List Ent} {b : Nat} {o : Obj} {nw : Bool} {f : Obj → List Ent} (h : At H b o nw f) : (b, o, nw) ∈ H := by
  induction h with
  | head => exact List.mem_cons_self
  | tail _ ih => exact List.mem_cons_of_mem _ ih
theorem At.blocks {H : List Ent} {b : Nat} {o : Obj} {nw : Bool} {f : Obj → List Ent} (h : At H b o nw f) (o' : Obj) : (f o').map (·.1) = H.map (·.1) := by
  induction h with
  | head => rfl
  | tail _ ih => simp [ih]
theorem At.flags {H : List Ent} {b : Nat} {o : Obj} {nw : Bool} {f : Obj → List Ent} (h : At H b o nw f) (o' : Obj) : (f o').map (fun e => (e.1, e.2.2)) = H.map (fun e => (e.1, e.2.2)) := by
  induction h with
  | head => rfl
  | tail _ ih => simp [ih]
theorem At.put {H : List Ent} {b : Nat} {o : Obj} {nw : Bool} {f : Obj → List Ent} (h : At H b o nw f) (hn : (H.map (·.1)).Nodup) (o' : Obj) : ∀ e ∈ f o', (e = (b, o', nw)) ∨ (e ∈ H ∧ e.1 ≠ b) := by
  induction h with
  | head =>
    intro e he
    simp only [List.map_cons, List.nodup_cons] at hn
    rcases List.mem_cons.1 he with rfl | he
    · exact .inl rfl
    · exact .inr ⟨List.mem_cons_of_mem _ he, fun hb => hn.1 (hb ▸ List.mem_map_of_mem he)⟩
  | tail h0 ih =>
    intro e he
    simp only [List.map_cons, List.nodup_cons] at hn
    rcases List.mem_cons.1 he with rfl | he
    · refine .inr ⟨List.mem_cons_self, fun hb => hn.1 ?_⟩
      rw [hb]; exact List.mem_map_of_mem h0.mem
    · rcases ih hn.2 e he with h1 | ⟨h1, h2⟩
      · exact .inl h1
      · exact .inr ⟨List.mem_cons_of_mem _ h1, h2⟩

/-- Of what was there when w was, only the blocks F may have turned. -/
structure Only (F : List Nat) (w w' : World) : Prop where
  os : w'.os = w.os
  tape : w'.tape = w.tape
  output : w'.output = w.output
  size : w.heap.size ≤ w'.heap.size
  frame : ∀ k, k < w.heap.size → k ∉ F → w'.heap[k]? = w.heap[k]?
theorem Only.refl (F : List Nat) (w : World) : Only F w w := ⟨rfl, rfl, rfl, Nat.le_refl _, fun _ _ _ => rfl⟩
theorem Only.trans {F G : List Nat} {w w1 w2 : World} (h : Only F w w1) (k : Only G w1 w2) : Only (F ++ G) w w2 :=
  ⟨k.os.trans h.os, k.tape.trans h.tape, k.output.trans h.output, Nat.le_trans h.size k.size, fun i hi hn => by
    simp only [List.mem_append, not_or] at hn
    exact (k.frame i (Nat.lt_of_lt_of_le hi h.size) hn.2).trans (h.frame i hi hn.1)⟩
theorem Only.mono {F G : List Nat} {w w' : World} (h : Only F w w') (hs : ∀ k, k < w.heap.size → k ∈ F → k ∈ G) : Only G w w' :=
  ⟨h.os, h.tape, h.output, h.size, fun k hk hn => h.frame k hk fun hf => hn (hs k hk hf)⟩
theorem Only.weaken {F G : List Nat} {w w' : World} (h : Only F w w') (hs : ∀ k ∈ F, k ∈ G) : Only G w w' := h.mono fun k _ hk => hs k hk
theorem Only.below {w w' : World} (h : Only [] w w') : Below w.heap.size w w' := ⟨h.os, h.tape, h.output, h.size, fun k hk => h.frame k hk (by simp)⟩
theorem Only.of_below {w w' : World} (h : Below w.heap.size w w') : Only [] w w' := ⟨h.os, h.tape, h.output, h.size, fun k hk _ => h.block k hk⟩
theorem Only.same {b : Nat} {F : List Nat} {w w' : World} (h : Only (b :: F) w w') (hb : w'.heap[b]? = w.heap[b]?) : Only F w w' :=
  ⟨h.os, h.tape, h.output, h.size, fun k hk hn => by
    by_cases e : k = b
    · subst e; exact hb
    · exact h.frame k hk (by simp [e, hn])⟩
theorem Only.block {F : List Nat} {w w' : World} (h : Only F w w') {b : Nat} {o : Obj} (hb : w.heap[b]? = some o) (hn : b ∉ F) : w'.heap[b]? = some o := by
  rw [h.frame b (by rcases Nat.lt_or_ge b w.heap.size with h' | h'; exact h'; rw [Array.getElem?_eq_none h'] at hb; cases hb) hn]
  exact hb

def Hold (H : List Ent) (w : World) : Prop := ∀ e ∈ H, w.heap[e.1]? = some e.2.1
/-- What is set apart: blocks that have been given up; blocks that are only read. -/
structure Ctx where
  dirty : List Nat
  ro : List (Nat × Obj)
def D0 : Ctx := ⟨[], []⟩
structure St (wb : World) (D : Ctx) (H : List Ent) (w : World) : Prop where
  at_ : ∀ e ∈ H, w.heap[e.1]? = some e.2.1
  nd : (H.map (·.1)).Nodup
  new : ∀ p ∈ H.map (fun e => (e.1, e.2.2)), p.2 = true → wb.heap.size ≤ p.1
  os : w.os = wb.os
  tape : w.tape = wb.tape
  output : w.output = wb.output
  size : wb.heap.size ≤ w.heap.size
  frame : ∀ k, k < wb.heap.size → k ∉ D.dirty → k ∉ H.map (·.1) → w.heap[k]? = wb.heap[k]?
  ro : ∀ e ∈ D.ro, w.heap[e.1]? = some e.2
  ap : ∀ e ∈ D.ro, e.1 ∉ H.map (·.1)

section
variable {wb w w' : World} {D : Ctx} {H : List Ent} {b : Nat} {o : Obj} {nw : Bool} {f : Obj → List Ent}
theorem lt_of_block {w : World} {b : Nat} {o : Obj} (hb : w.heap[b]? = some o) : b < w.heap.size := by
  rcases Nat.lt_or_ge b w.heap.size with h | h
  · exact h
  · rw [Array.getElem?_eq_none h] at hb; cases hb
theorem St.nil (w : World) : St w D0 [] w := ⟨by simp, by simp, by simp, rfl, rfl, rfl, Nat.le_refl _, fun _ _ _ _ => rfl, by simp [D0], by simp⟩
theorem St.track (h : St wb D H w) (hb : w.heap[b]? = some o) (hn : b ∉ H.map (·.1)) (hr : b ∉ D.ro.map (·.1) := by simp [D0]) : St wb D ((b, o, false) :: H) w :=
  ⟨fun e he => by
      rcases List.mem_cons.1 he with rfl | he
      · exact hb
      · exact h.at_ e he,
    by simpa using ⟨by simpa using hn, h.nd⟩, fun p hp hq => by
      simp only [List.map_cons, List.mem_cons] at hp
      rcases hp with rfl | hp
      · cases hq
      · exact h.new p hp hq, h.os, h.tape, h.output, h.size, fun k hk hd hm => h.frame k hk hd (by simp at hm ⊢; exact hm.2), h.ro, fun e he hm => by
      simp only [List.map_cons, List.mem_cons] at hm
      rcases hm with hm | hm
      · exact hr (hm ▸ List.mem_map_of_mem he)
      · exact h.ap e he hm⟩
/-- A block that is only read from here on. -/
theorem St.read (h : St wb D H w) (hb : w.heap[b]? = some o) (hn : b ∉ H.map (·.1)) : St wb ⟨D.dirty, (b, o) :: D.ro⟩ H w :=
  ⟨h.at_, h.nd, h.new, h.os, h.tape, h.output, h.size, h.frame, fun e he => by
      rcases List.mem_cons.1 he with rfl | he
      · exact hb
      · exact h.ro e he, fun e he => by
      rcases List.mem_cons.1 he with rfl | he
      · exact hn
      · exact h.ap e he⟩
theorem St.got (h : St wb D H w) (hm : (b, o) ∈ D.ro) : w.heap[b]? = some o := h.ro _ hm
theorem St.hold (h : St wb D H w) : Hold H w := h.at_
theorem St.get (h : St wb D H w) (hA : At H b o nw f) : w.heap[b]? = some o := h.at_ _ hA.mem
theorem St.put (h : St wb D H w) (hA : At H b o nw f) {o' : Obj} (h1 : w'.os = w.os) (h2 : w'.tape = w.tape) (h3 : w'.output = w.output) (h4 : w'.heap.size = w.heap.size)
    (h5 : ∀ k, k ≠ b → w'.heap[k]? = w.heap[k]?) (h6 : w'.heap[b]? = some o') : St wb D (f o') w' where
  at_ := fun e he => by
    rcases hA.put h.nd o' e he with rfl | ⟨hm, hne⟩
    · exact h6
    · rw [h5 _ hne]; exact h.at_ e hm
  nd := by rw [hA.blocks]; exact h.nd
  new := by rw [hA.flags]; exact h.new
  os := h1.trans h.os
  tape := h2.trans h.tape
  output := h3.trans h.output
  size := by rw [h4]; exact h.size
  frame := fun k hk hd hm => by
    rw [hA.blocks] at hm
    have hne : k ≠ b := fun e => hm (e ▸ List.mem_map_of_mem hA.mem)
    rw [h5 k hne]; exact h.frame k hk hd hm
  ro := fun e he => by
    have hne : e.1 ≠ b := fun q => h.ap e he (q ▸ List.mem_map_of_mem hA.mem)
    rw [h5 _ hne]; exact h.ro e he
  ap := by rw [hA.blocks]; exact h.ap
theorem St.alloc (h : St wb D H w) (o : Obj) : St wb D ((w.heap.size, o, true) :: H) { w with heap := w.heap.push o } where
  at_ := fun e he => by
    rcases List.mem_cons.1 he with rfl | he
    · simp
    · have h1 := h.at_ e he
      have h2 := lt_of_block h1
      show (w.heap.push o)[e.1]? = _
      rw [Array.getElem?_push, if_neg (by omega)]; exact h1
  nd := by
    simp only [List.map_cons, List.nodup_cons]
    refine ⟨fun hm => ?_, h.nd⟩
    obtain ⟨e, he, heq⟩ := List.mem_map.1 hm
    have := lt_of_block (h.at_ e he)
    omega
  new := fun p hp hq => by
    simp only [List.map_cons, List.mem_cons] at hp
    rcases hp with rfl | hp
    · exact h.size
    · exact h.new p hp hq
  os := h.os
  tape := h.tape
  output := h.output
  size := by simp; exact Nat.le_succ_of_le h.size
  frame := fun k hk hd hm => by
    simp only [List.map_cons, List.mem_cons, not_or] at hm
    show (w.heap.push o)[k]? = _
    have := h.size
    rw [Array.getElem?_push, if_neg (by omega)]; exact h.frame k hk hd hm.2
  ro := fun e he => by
    have h1 := h.ro e he
    have h2 := lt_of_block h1
    show (w.heap.push o)[e.1]? = _
    rw [Array.getElem?_push, if_neg (by omega)]; exact h1
  ap := fun e he hm => by
    simp only [List.map_cons, List.mem_cons] at hm
    rcases hm with hm | hm
    · have := lt_of_block (h.ro e he); omega
    · exact h.ap e he hm
theorem St.drew (h : St wb D H w) : St wb D H { w with drawn := w.drawn + 1 } := ⟨h.at_, h.nd, h.new, h.os, h.tape, h.output, h.size, h.frame, h.ro, h.ap⟩
theorem St.drew' (h : St wb D H w) : St wb D H w.drew := ⟨h.at_, h.nd, h.new, h.os, h.tape, h.output, h.size, h.frame, h.ro, h.ap⟩
/-- Behind a call that turns blocks F, none of them listed. -/
theorem St.call {F : List Nat} (h : St wb D H w) (ho : Only F w w') (hF : ∀ k ∈ F, k ∉ H.map (·.1)) (hR : ∀ k ∈ F, k ∉ D.ro.map (·.1)) : St wb ⟨F ++ D.dirty, D.ro⟩ H w' where
  at_ := fun e he => ho.block (h.at_ e he) fun hm => hF _ hm (List.mem_map_of_mem he)
  nd := h.nd
  new := h.new
  os := ho.os.trans h.os
  tape := ho.tape.trans h.tape
  output := ho.output.trans h.output
  size := Nat.le_trans h.size ho.size
  frame := fun k hk hd hm => by
    simp only [List.mem_append, not_or] at hd
    rw [ho.frame k (Nat.lt_of_lt_of_le hk h.size) hd.1]; exact h.frame k hk hd.2 hm
  ro := fun e he => ho.block (h.ro e he) fun hm => hR _ hm (List.mem_map_of_mem he)
  ap := h.ap
theorem St.call0 (h : St wb D H w) (ho : Only [] w w') : St wb D H w' := by have := h.call ho (by simp) (by simp); simpa using this
theorem St.forget {e : Ent} (h : St wb D (e :: H) w) : St wb ⟨e.1 :: D.dirty, D.ro⟩ H w :=
  ⟨fun x hx => h.at_ x (List.mem_cons_of_mem _ hx), by have := h.nd; simp at this; exact by simpa using this.2, fun p hp => h.new p (by simp only [List.map_cons]; exact List.mem_cons_of_mem _ hp),
    h.os, h.tape, h.output, h.size, fun k hk hd hm => h.frame k hk (fun x => hd (List.mem_cons_of_mem _ x)) (by simp only [List.map_cons, List.mem_cons, not_or]; exact ⟨fun x => hd (x ▸ List.mem_cons_self), hm⟩), h.ro, fun e he hm => h.ap e he (by simp only [List.map_cons]; exact List.mem_cons_of_mem _ hm)⟩
/-- What a new block that is forgotten leaves: nothing. -/
theorem St.forgetNew {b : Nat} {o : Obj} (h : St wb D ((b, o, true) :: H) w) : St wb D H w :=
  ⟨fun x hx => h.at_ x (List.mem_cons_of_mem _ hx), by have := h.nd; simp at this; exact by simpa using this.2, fun p hp => h.new p (by simp only [List.map_cons]; exact List.mem_cons_of_mem _ hp),
    h.os, h.tape, h.output, h.size, fun k hk hd hm => h.frame k hk hd (by
      simp only [List.map_cons, List.mem_cons, not_or]
      refine ⟨fun e => ?_, hm⟩
      have := h.new (b, true) (by simp) rfl
      simp at this
      omega), h.ro, fun e he hm => h.ap e he (by simp only [List.map_cons]; exact List.mem_cons_of_mem _ hm)⟩
/-- Two entries, the other way about. -/
theorem St.swap {x y : Ent} (h : St wb D (x :: y :: H) w) : St wb D (y :: x :: H) w :=
  ⟨fun e he => h.at_ e (by simp only [List.mem_cons] at he ⊢; rcases he with h | h | h <;> simp [h]), by
      have := h.nd
      simp only [List.map_cons, List.nodup_cons, List.mem_cons, not_or] at this ⊢
      exact ⟨⟨fun e => this.1.1 e.symm, this.2.1⟩, this.1.2, this.2.2⟩,
    fun p hp => h.new p (by simp only [List.map_cons, List.mem_cons] at hp ⊢; rcases hp with h | h | h <;> simp [h]), h.os, h.tape, h.output, h.size,
    fun k hk hd hm => h.frame k hk hd (by simp only [List.map_cons, List.mem_cons, not_or] at hm ⊢; exact ⟨hm.2.1, hm.1, hm.2.2⟩), h.ro,
    fun e he hm => h.ap e he (by simp only [List.map_cons, List.mem_cons] at hm ⊢; rcases hm with h | h | h <;> simp [h])⟩
/-- A new block is set apart: only read from here on. -/
theorem St.toRead {b : Nat} {o : Obj} (h : St wb D ((b, o, true) :: H) w) : St wb ⟨D.dirty, (b, o) :: D.ro⟩ H w :=
  h.forgetNew.read (h.at_ _ List.mem_cons_self) (by have := h.nd; simp only [List.map_cons, List.nodup_cons] at this; exact this.1)
def olds (H : List Ent) : List Nat := (H.filter fun e => !e.2.2).map (·.1)
theorem St.only (h : St wb D H w) : Only (olds H ++ D.dirty) wb w :=
  ⟨h.os, h.tape, h.output, h.size, fun k hk hn => by
    simp only [List.mem_append, not_or] at hn
    refine h.frame k hk hn.2 fun hm => ?_
    obtain ⟨e, he, rfl⟩ := List.mem_map.1 hm
    by_cases hq : e.2.2 = true
    · have := h.new (e.1, e.2.2) (List.mem_map_of_mem he) hq
      simp at this
      omega
    · exact hn.1 (List.mem_map_of_mem (by simp [List.mem_filter, he, hq]))⟩
/-- A block that was only read. -/
theorem St.keep {b : Nat} {o : Obj} (h : St wb D ((b, o, false) :: H) w) (hb : wb.heap[b]? = some o) : Only (olds H ++ D.dirty) wb w := by
  have h1 := h.only
  have h2 : Only (b :: (olds H ++ D.dirty)) wb w := by simpa [olds] using h1
  exact h2.same ((h.at_ _ List.mem_cons_self).trans hb.symm)
theorem St.only0 (h : St wb D H w) (hH : olds H ++ D.dirty = []) : Only [] wb w := by have := h.only; rw [hH] at this; exact this
/-- Behind a step that makes blocks, and turns none that is listed or set apart. -/
theorem St.grown (h : St wb D H w) {row : Option Nat} (hg : w.grownBy w' row) (hr : ∀ k, row = some k → wb.heap.size ≤ k ∧ k ∉ H.map (·.1) ∧ k ∉ D.ro.map (·.1)) : St wb D H w' where
  at_ := fun e he => by
    have h1 := h.at_ e he
    rw [hg.block _ (lt_of_block h1) (fun q => (hr _ q.symm).2.1 (List.mem_map_of_mem he))]; exact h1
  nd := h.nd
  new := h.new
  os := hg.os.trans h.os
  tape := hg.tape.trans h.tape
  output := hg.output.trans h.output
  size := Nat.le_trans h.size hg.size
  frame := fun k hk hd hm => by
    rw [hg.block _ (Nat.lt_of_lt_of_le hk h.size) (fun q => by have := (hr _ q.symm).1; omega)]; exact h.frame k hk hd hm
  ro := fun e he => by
    have h1 := h.ro e he
    rw [hg.block _ (lt_of_block h1) (fun q => (hr _ q.symm).2.2 (List.mem_map_of_mem he))]; exact h1
  ap := h.ap
/-- A block of one's own that isn't listed yet. -/
theorem St.own (h : St wb D H w) (hb : w.heap[b]? = some o) (h1 : wb.heap.size ≤ b) (h2 : b ∉ H.map (·.1)) (h3 : b ∉ D.ro.map (·.1)) : St wb D ((b, o, true) :: H) w :=
  ⟨fun e he => by
      rcases List.mem_cons.1 he with rfl | he
      · exact hb
      · exact h.at_ e he,
    by simpa using ⟨by simpa using h2, h.nd⟩, fun p hp hq => by
      simp only [List.map_cons, List.mem_cons] at hp
      rcases hp with rfl | hp
      · exact h1
      · exact h.new p hp hq, h.os, h.tape, h.output, h.size, fun k hk hd hm => h.frame k hk hd (by simp at hm ⊢; exact hm.2), h.ro, fun e he hm => by
      simp only [List.map_cons, List.mem_cons] at hm
      rcases hm with hm | hm
      · exact h3 (hm ▸ List.mem_map_of_mem he)
      · exact h.ap e he hm⟩
end

/-! ### 6. The program's types: tables -/
def look {α : Type} (k : Nat) : List (Nat × α) → Option α
  | [] => none
  | (i, x) :: l => bif Nat.beq i k then some x else look k l
theorem look_mem {α : Type} {k : Nat} {x : α} : ∀ {l : List (Nat × α)}, look k l = some x → (k, x) ∈ l
  | [], h => by cases h
  | (i, y) :: l, h => by
    simp only [look] at h
    cases hb : Nat.beq i k
    · rw [hb] at h; exact List.mem_cons_of_mem _ (look_mem h)
    · rw [hb] at h
      have := Nat.eq_of_beq_eq_true hb
      simp at h
      subst this; subst h; exact List.mem_cons_self
def fieldOff (P : Program) (s f : Nat) : Option Nat := match P.underlying s with
  | some (.struct fs) => (fs[f]?).bind fun fd => match P.info? fd.type with
    | some i => if i.size = 0 then none else some fd.offset
    | none => none
  | _ => none
def tkOf (P : Program) (t : Nat) : Option (Bool × Nat) := match P.underlying t, P.info? t with
  | some (.struct _), some i | some (.array _ _), some i => some (true, i.size)
  | some _, some i => some (false, i.size)
  | _, _ => none
def zeroOf (P : Program) (t : Nat) : Option (Array Value) := (P.info? t).bind fun i => i.zero.map (·.cells)
def ikOf (P : Program) (t : Nat) : Option IntKind := match P.underlying t with
  | some (.int k) => some k
  | _ => none
def kindOf (P : Program) (t : Nat) : Nat := match P.underlying t with   -- 1: bool · 2: pointer to something that has cells · 3: func · 4: slice · 5: map · 6: string
  | some .bool => 1
  | some (.pointer e) => match P.info? e with
    | some i => if i.size = 0 then 0 else 2
    | none => 0
  | some (.func ..) => 3
  | some (.slice _) => 4
  | some (.map ..) => 5
  | some .string => 6
  | _ => 0
/-- A slice's type: its elements' type, their cells, their bytes. -/
def slOf (P : Program) (t : Nat) : Option (Nat × Nat × Nat) := match P.underlying t with
  | some (.slice e) => (P.info? e).map fun i => (e, i.size, i.bytes)
  | _ => none
def placesOf (P : Program) (t : Nat) : Option (List (Nat × Nat)) := match P.underlying t with
  | some (.struct fs) => fs.toList.mapM fun f => (P.info? f.type).map fun i => (f.offset, i.size)
  | _ => none
/-- The cells that == looks at, in order: of a type all of whose parts are numbers and bools. -/
def leaves (P : Program) : Nat → Nat → Option (List (Nat × Bool))
  | 0, _ => none
  | d + 1, t => match P.underlying t with
    | some (.int _) => some [(0, false)]
    | some .bool => some [(0, true)]
    | some (.struct fs) => if P.stoodInHeld t then none else fs.toList.foldr (fun f acc => match leaves P d f.type, acc, P.info? f.type with
        | some l, some r, some i => if f.name = "_" ∨ ¬ (l.all fun j => decide (j.1 < i.size)) = true then none else some (l.map (fun j => (f.offset + j.1, j.2)) ++ r)
        | _, _, _ => none) (some [])
    | _ => none
/-- A struct's type whose values are held cell by cell. -/
def flatOk (P : Program) (t : Nat) (l : List (Nat × Bool)) : Bool := (match leaves P 20 t with | some l' => l' == l | none => false) && !P.eqGuardType P.depth t && (match P.underlying t with | some (.struct _) => true | _ => false)
structure Tab where
  flats : List (Nat × List (Nat × Bool))
  pls : List (Nat × List (Nat × Nat))
  offs : List (Nat × List Nat)
  tks : List (Nat × Bool × Nat)
  zs : List (Nat × List Value)
  iks : List (Nat × IntKind)
  kinds : List (Nat × Nat)
  sls : List (Nat × Nat × Nat × Nat)
def ZOk (P : Program) : List (Nat × List Value) → Prop
  | [] => True
  | (t, cs) :: l => zeroOf P t = some cs.toArray ∧ ZOk P l
structure TabOk (P : Program) (T : Tab) : Prop where
  flats : (T.flats.all fun (t, l) => flatOk P t l) = true
  pls : (T.pls.all fun (t, l) => placesOf P t == some l) = true
  offs : (T.offs.all fun (s, l) => (List.range l.length).all fun f => fieldOff P s f == l[f]?) = true
  tks : (T.tks.all fun (t, x) => tkOf P t == some x) = true
  zs : ZOk P T.zs
  iks : (T.iks.all fun (t, k) => decide (ikOf P t = some k)) = true
  kinds : (T.kinds.all fun (t, k) => Nat.beq (kindOf P t) k) = true
  sls : (T.sls.all fun (t, x) => decide (slOf P t = some x)) = true
  mixed : P.follows .mixedOrders = true
section
variable {P : Program} {T : Tab}
theorem TabOk.off (h : TabOk P T) {s f k : Nat} (hk : (look s T.offs).bind (·[f]?) = some k) : fieldOff P s f = some k := by
  cases hl : look s T.offs with
  | none => rw [hl] at hk; cases hk
  | some l =>
    rw [hl] at hk
    have hk : l[f]? = some k := hk
    have h1 := List.all_eq_true.1 h.offs _ (look_mem hl)
    have hf : f < l.length := by rcases Nat.lt_or_ge f l.length with h' | h'; exact h'; rw [List.getElem?_eq_none h'] at hk; cases hk
    have h2 := List.all_eq_true.1 h1 f (List.mem_range.2 hf)
    rw [beq_iff_eq] at h2
    rw [h2, hk]
theorem TabOk.flat (h : TabOk P T) {t : Nat} {x : List (Nat × Bool)} (hk : look t T.flats = some x) : flatOk P t x = true := List.all_eq_true.1 h.flats _ (look_mem hk)
theorem TabOk.pl (h : TabOk P T) {t : Nat} {x : List (Nat × Nat)} (hk : look t T.pls = some x) : placesOf P t = some x := by
  have := List.all_eq_true.1 h.pls _ (look_mem hk)
  simpa using this
theorem TabOk.tk (h : TabOk P T) {t : Nat} {x : Bool × Nat} (hk : look t T.tks = some x) : tkOf P t = some x := by
  have := List.all_eq_true.1 h.tks _ (look_mem hk)
  simpa using this
theorem TabOk.z (h : TabOk P T) {t : Nat} {cs : List Value} (hk : look t T.zs = some cs) : zeroOf P t = some cs.toArray := by
  have hm := look_mem hk
  have hz := h.zs
  revert hz hm
  generalize T.zs = l
  intro hm hz
  induction l with
  | nil => cases hm
  | cons e l ih =>
    obtain ⟨t', cs'⟩ := e
    rcases List.mem_cons.1 hm with he | hm
    · cases he; exact hz.1
    · exact ih hm hz.2
theorem TabOk.ik (h : TabOk P T) {t : Nat} {k : IntKind} (hk : look t T.iks = some k) : P.underlying t = some (.int k) := by
  have := List.all_eq_true.1 h.iks _ (look_mem hk)
  simp only [decide_eq_true_eq] at this
  unfold ikOf at this
  split at this
  · rename_i h1; cases this; exact h1
  · cases this
theorem TabOk.kind (h : TabOk P T) {t k : Nat} (hk : look t T.kinds = some k) : kindOf P t = k := by
  have := List.all_eq_true.1 h.kinds _ (look_mem hk)
  exact Nat.eq_of_beq_eq_true this
theorem TabOk.sl (h : TabOk P T) {t : Nat} {x : Nat × Nat × Nat} (hk : look t T.sls = some x) : slOf P t = some x := by
  have := List.all_eq_true.1 h.sls _ (look_mem hk)
  simpa using this
end
end Go.Proofs.YtkkelelmdbemmaaDoorX
