/- The calculus, third part: a region that draws its order. Nothing of the program stands here. -/
import Derived.Test.YtkkelelmdbemmaaDoorY
import Derived.OrdersHeld
set_option linter.unusedVariables false
set_option linter.unusedSimpArgs false
namespace Go.Proofs.YtkkelelmdbemmaaDoorX
open Go Go.RowKit

/-- Loads are what hangs on memory. -/
def isLoad (o : Oper) : Bool := match o.op with
  | .load .. => true
  | _ => false
/-- The operations E come behind every load that isn't one of them. -/
def finOk (ops : Array Oper) (E : List Nat) : Bool :=
  E.all fun e => match ops[e]? with
    | none => false
    | some oe => (List.range ops.size).all fun i => E.contains i || (match ops[i]? with
        | some oi => !isLoad oi || oe.after.any fun x => Region.binds .any x && x.on == i
        | none => true)
def SE (E : List Nat) (H : List Ent) (listed : Array Bool) (w : World) : Prop := (E.all fun e => !listed.getD e false) = true → Hold H w

def wpAnyL (P : Program) (ops : Array Oper) (Q : Exit → Act → World → Prop) (S : Array Bool → World → Prop) : Nat → Array Bool → Act → World → Prop
  | 0, listed, a, w => Region.ready .any ops listed = [] ∧ Q .normal a w
  | fuel + 1, listed, a, w =>
    (Region.ready .any ops listed = [] → Q .normal a w) ∧
    ∀ i ∈ Region.ready .any ops listed, wpOp P ops Q i (fun a' w' => S (listed.setIfInBounds i true) w' ∧ wpAnyL P ops Q S fuel (listed.setIfInBounds i true) a' w') a w

section
variable {P : Program} {ops : Array Oper} {Q : Exit → Act → World → Prop} {E : List Nat} {H : List Ent}

theorem wpAny_of_L {S : Array Bool → World → Prop} : ∀ (fuel : Nat) (listed : Array Bool) (a : Act) (w : World), wpAnyL P ops Q S fuel listed a w → wpAny P .any ops Q fuel listed a w
  | 0, _, _, _, h => h
  | fuel + 1, _, _, _, h => ⟨h.1, fun i hi => wpOp_mono (fun a' w' h' => wpAny_of_L fuel _ a' w' h'.2) (h.2 i hi)⟩

theorem all_set {listed : Array Bool} {i : Nat} (hi : i ∉ E) : (E.all fun e => !(listed.setIfInBounds i true).getD e false) = E.all fun e => !listed.getD e false := by
  have : ∀ e ∈ E, (!(listed.setIfInBounds i true).getD e false) = !listed.getD e false := fun e he => by
    rw [getD_set_ne false (show i ≠ e from fun h => hi (by rw [h]; exact he))]
  rw [Bool.eq_iff_iff]
  simp only [List.all_eq_true]
  exact ⟨fun h e he => (this e he) ▸ h e he, fun h e he => (this e he).symm ▸ h e he⟩

/-- Operation oi yields v in every world in which H holds; where it is no load, in every world. -/
def QuietIf (P : Program) (ops : Array Oper) (H : List Ent) (o : Oper) (v : Value) (a : Act) : Prop :=
  (Region.wanted o (yielded ops a.tmps) = true ∧ ∀ w, (isLoad o = true → Hold H w) → (execOp a.eval o).run P w = .ok (.value v) w) ∨
  (Region.wanted o (yielded ops a.tmps) = false ∧ v = undef)

theorem wpAnyL_first {i : Nat} {oi : Oper} {v : Value} (hi : ops[i]? = some oi) (hE : i ∉ E) (hfin : finOk ops E = true) (hsel : Region.noSelect ops = true)
    (hQ : ∀ c a w, Q (.panic c) (a.put oi.dst v) w → Q (.panic c) a w) :
    ∀ (fuel : Nat) (listed : Array Bool) (a : Act) (w : World), listed.size = ops.size →
      (∀ j oj, ops[j]? = some oj → j ≠ i → listed.getD j true = false → (∀ e ∈ oj.after, Region.binds .any e = true → e.on ≠ i) → oi.apart ops oj = true) →
      i ∈ Region.ready .any ops listed → QuietIf P ops H oi v a → SE E H listed w → (isLoad oi = true → (E.all fun e => !listed.getD e false) = true) →
      wpAnyL P ops Q (SE E H) fuel (listed.setIfInBounds i true) (a.put oi.dst v) w → wpAnyL P ops Q (SE E H) (fuel + 1) listed a w := by
  have hilt : i < ops.size := (Array.getElem?_eq_some_iff.1 hi).1
  intro fuel
  induction fuel with
  | zero =>
    intro listed a w hsz _ hr hy hS hE2 hH
    refine ⟨fun h => (by rw [h] at hr; cases hr), fun j hj => ?_⟩
    by_cases hji : j = i
    · subst hji
      refine (show YieldsIf P ops (fun w => isLoad oi = true → Hold H w) oi v a from hy).wpOp hi (fun hl => hS (hE2 hl)) ⟨?_, hH⟩
      intro h; rw [all_set hE] at h; exact hS h
    · have := ready_mono hj hji
      rw [hH.1] at this
      cases this
  | succ fuel ih =>
    intro listed a w hsz hfree hr hy hS hE2 hH
    have hy' : YieldsIf P ops (fun w => isLoad oi = true → Hold H w) oi v a := hy
    refine ⟨fun h => (by rw [h] at hr; cases hr), fun j hj => ?_⟩
    by_cases hji : j = i
    · subst hji
      refine hy'.wpOp hi (fun hl => hS (hE2 hl)) ⟨?_, hH⟩
      intro h; rw [all_set hE] at h; exact hS h
    · have h1 := hH.2 j (ready_mono hj hji)
      obtain ⟨hjun, oj, hoj, hall⟩ := mem_ready.1 hj
      have hiun : listed.getD i false = false := by
        have h0 := (mem_ready.1 hr).1
        simp [Array.getD, hsz, hilt] at h0 ⊢; exact h0
      have hnot : ∀ e ∈ oj.after, Region.binds .any e = true → e.on ≠ i := fun e he hb heq => by
        have h1 := hall e he hb
        rw [heq, hiun] at h1
        cases h1
      -- a load that is open yet: j is none of E
      have hjE : isLoad oi = true → j ∉ E := fun hl hjE => by
        have hf := List.all_eq_true.1 hfin j hjE
        simp only [hoj, List.all_eq_true, List.mem_range] at hf
        have hf := hf i hilt
        simp only [hi, hl, Bool.not_true, Bool.false_or, Bool.or_eq_true, List.contains_iff_mem] at hf
        rcases hf with hf | hf
        · exact hE hf
        · obtain ⟨e, he, hb⟩ := Array.any_eq_true'.1 hf
          simp only [Bool.and_eq_true, beq_iff_eq] at hb
          exact hnot e he hb.1 hb.2
      have h2 := wpOp_putIf hoj (hfree j oj hoj hji hjun hnot) (fun cs b => Region.noSelect_spec hsel i oi cs b hi) (fun cs b => Region.noSelect_spec hsel j oj cs b hoj) hQ hy' h1
      have hfree' : ∀ k ok, ops[k]? = some ok → k ≠ i → (listed.setIfInBounds j true).getD k true = false →
          (∀ e ∈ ok.after, Region.binds .any e = true → e.on ≠ i) → oi.apart ops ok = true := fun k ok hk hki hun hno => by
        refine hfree k ok hk hki ?_ hno
        by_cases hjk : j = k
        · subst hjk; exact hjun
        · rw [getD_set_ne true hjk] at hun; exact hun
      have hset : ∀ w', SE E H ((listed.setIfInBounds i true).setIfInBounds j true) w' → SE E H (listed.setIfInBounds j true) w' := fun w' h hp => by
        refine h ?_
        rw [Array.setIfInBounds_comm _ _ (Ne.symm hji), all_set hE]
        exact hp
      refine wpOp_mono (fun a' w' h3 => ⟨hset w' h3.2.1, ih (listed.setIfInBounds j true) a' w' (by simp [hsz]) hfree' (ready_mono hr (Ne.symm hji)) h3.1 (hset w' h3.2.1) ?_ ?_⟩) h2
      · intro hl
        rw [all_set (hjE hl)]
        exact hE2 hl
      · rw [Array.setIfInBounds_comm _ _ hji]
        exact h3.2.2

/-! ### In frames as functions -/
variable {QE : Exit → Env → World → Prop} {n : Nat} {env : Env} {w wb : World} {D : Ctx} {fuel : Nat} {listed : Array Bool} {d : Option Nat} {op : Op} {ty : Nat} {pos : String} {aft : Array Edge} {g : Option (Nat × Bool)} {i : Nat} {v : Value}
def NoP (QE : Exit → Env → World → Prop) : Prop := ∀ c env w, ¬ QE (.panic c) env w
theorem nop_ret {rs : List ResultVar} {R : Value → World → Prop} : NoP (retE P rs R) := fun _ _ _ h => h
theorem nop_then {y : Code} (h : NoP QE) : NoP (thenE P n y QE) := fun c env w hq => h c env w hq
theorem nop_block {id : Nat} (h : NoP QE) : NoP (blockE id QE) := fun c env w hq => h c env w hq
theorem nop_loopS {σ : Type} {vals : σ → List (Nat × Value)} {I : σ → World → Prop} {μ : σ → Nat} {s : σ} (h : NoP QE) : NoP (loopS vals I μ s QE) := fun c env w hq => h c env w hq
theorem nop_cutB {σ : Type} {id : Nat} {vals : σ → List (Nat × Value)} {I : σ → World → Prop} (h : NoP QE) : NoP (cutB id vals I QE) := fun c env w hq => h c env w hq
theorem nop_cutN {σ : Type} {vals : σ → List (Nat × Value)} {I : σ → World → Prop} (h : NoP QE) : NoP (cutN vals I QE) := fun c env w hq => h c env w hq
theorem nop_loop {I : Nat → Env → World → Prop} {m : Nat} (h : NoP QE) : NoP (loopE I m QE) := fun c env w hq => h c env w hq

def XA (P : Program) (ops : Array Oper) (E : List Nat) (H : List Ent) (QE : Exit → Env → World → Prop) (n fuel : Nat) (listed : Array Bool) (env : Env) (w : World) : Prop :=
  ∀ a, Fits n env a → wpAnyL P ops (lift n QE) (SE E H) fuel listed a w
structure XH (ops : Array Oper) (E : List Nat) (QE : Exit → Env → World → Prop) (n : Nat) : Prop where
  fin : finOk ops E = true
  sel : Region.noSelect ops = true
  dst : ops.toList.all (dOk n) = true
  nop : NoP QE
def takeOk (ops : Array Oper) (E : List Nat) (listed : Array Bool) (i : Nat) : Bool :=
  !E.contains i && Region.free .any ops listed i && (Region.ready .any ops listed).contains i && Nat.beq listed.size ops.size && ((match ops[i]? with | some o => !isLoad o | none => true) || E.all fun e => !listed.getD e false)
theorem xa_any (hX : XH ops E QE n) {o : Oper} (hi : ops[i]? = some o) (hc : takeOk ops E listed i = true) (hS : SE E H listed w)
    (hq : ∀ a, Fits n env a → QuietIf P ops H o v a) (k : XA P ops E H QE n fuel (listed.setIfInBounds i true) (updO env o.dst v) w) : XA P ops E H QE n (fuel + 1) listed env w := by
  intro a hf
  simp only [takeOk, hi, Bool.and_eq_true, Bool.not_eq_true', Bool.or_eq_true] at hc
  obtain ⟨⟨⟨⟨h1, h2⟩, h3⟩, h4⟩, h5⟩ := hc
  have hd : ∀ t, o.dst = some t → t < n := dOk_lt (List.all_eq_true.1 hX.dst o (by have := Array.mem_of_getElem? hi; simpa using this))
  refine wpAnyL_first hi (by simpa using h1) hX.fin hX.sel (fun c a w ⟨env', _, hq⟩ => (hX.nop c env' w hq).elim) fuel listed a w (Nat.eq_of_beq_eq_true h4) (Region.free_spec hi h2) (by simpa using h3) (hq a hf) hS ?_ (k _ (hf.put hd v))
  intro hl
  rcases h5 with h5 | h5
  · rw [hl] at h5; cases h5
  · exact h5
theorem xa_take (hX : XH ops E QE n) (hi : ops[i]? = some ⟨d, op, ty, pos, aft, g⟩) (hc : takeOk ops E listed i = true) (hS : SE E H listed w) (hw : wantedE ops env g = true)
    (hr : ∀ w, (isLoad ⟨d, op, ty, pos, aft, g⟩ = true → Hold H w) → (execOp (ev env) (⟨d, op, ty, pos, aft, g⟩ : Oper)).run P w = .ok (.value v) w)
    (k : XA P ops E H QE n fuel (listed.setIfInBounds i true) (updO env d v) w) : XA P ops E H QE n (fuel + 1) listed env w :=
  xa_any hX hi hc hS (fun a hf => .inl ⟨by rw [hf.wanted]; exact hw, fun w hh => by rw [hf.eval]; exact hr w hh⟩) k
theorem xa_pass (hX : XH ops E QE n) (hi : ops[i]? = some ⟨d, op, ty, pos, aft, g⟩) (hc : takeOk ops E listed i = true) (hS : SE E H listed w) (hw : wantedE ops env g = false)
    (k : XA P ops E H QE n fuel (listed.setIfInBounds i true) (updO env d undef) w) : XA P ops E H QE n (fuel + 1) listed env w :=
  xa_any hX hi hc hS (fun a hf => .inr ⟨by rw [hf.wanted]; exact hw, rfl⟩) k

/-- What one operation alone is to lead to. -/
def doneE (P : Program) (ops : Array Oper) (E : List Nat) (H : List Ent) (QE : Exit → Env → World → Prop) (n fuel : Nat) (listed : Array Bool) : Exit → Env → World → Prop
  | .normal, env, w => SE E H listed w ∧ XA P ops E H QE n fuel listed env w
  | .outgrown, _, _ => False
  | e, env, w => QE e env w
theorem done_of (hS : SE E H listed w) (k : XA P ops E H QE n fuel listed env w) : doneE P ops E H QE n fuel listed .normal env w := ⟨hS, k⟩
theorem upon_weaken {o : Oper} {a : Act} {K : Act → World → Prop} {Q Q' : Exit → Act → World → Prop} (hp : ∀ c a w, Q (.panic c) a w → Q' (.panic c) a w) (ho : LetsOut Q → LetsOut Q') (h : o.wp P a w K Q) : o.wp P a w K Q' := by
  unfold Oper.wp at *
  generalize (execOp a.eval o).run P w = r at *
  cases r with
  | ok x w' =>
    cases x <;> simp only [Oper.upon] at h ⊢ <;> first
      | exact h
      | exact h.mono fun e w'' he => by cases e <;> first | exact he | exact hp _ _ _ he | exact ho he
  | halt x w' => cases x <;> simp only [Oper.upon] at h ⊢ <;> first | exact h | exact hp _ _ _ h
theorem xa_do (i : Nat) {o : Oper} (hX : XH ops E QE n) (hi : ops[i]? = some o) (hr : Region.ready .any ops listed = [i]) (h : XS P ops (doneE P ops E H QE n fuel (listed.setIfInBounds i true)) n [o] env w) : XA P ops E H QE n (fuel + 1) listed env w := by
  intro a hf
  have hd : dOk n o = true := List.all_eq_true.1 hX.dst o (by have := Array.mem_of_getElem? hi; simpa using this)
  have h := h (by simp [hd]) a hf
  refine ⟨fun h0 => (by rw [h0] at hr; cases hr), fun j hj => ?_⟩
  rw [hr] at hj
  obtain rfl : j = i := by simpa using hj
  have hp : ∀ c a w, lift n (doneE P ops E H QE n fuel (listed.setIfInBounds j true)) (.panic c) a w → lift n QE (.panic c) a w := fun c a w ⟨env, hf, hq⟩ => ⟨env, hf, hq⟩
  have ho : LetsOut (lift n (doneE P ops E H QE n fuel (listed.setIfInBounds j true))) → LetsOut (lift n QE) := fun ⟨a, w, env, hf, hq⟩ => hq.elim
  unfold wpList at h
  unfold wpOp
  simp only [hi]
  split
  · rename_i hw
    rw [if_pos hw] at h
    rcases h with h | ⟨h1, h2⟩
    · refine .inl (upon_weaken hp ho (Oper.wp_mono (fun a' w' hn => ?_) h))
      simp only [wpList] at hn
      obtain ⟨env', hf', hS, hx⟩ := hn
      exact ⟨hS, hx a' hf'⟩
    · exact .inr ⟨h1, ho h2⟩
  · rename_i hw
    rw [if_neg hw] at h
    simp only [wpList] at h
    obtain ⟨env', hf', hS, hx⟩ := h
    exact ⟨hS, hx _ hf'⟩
theorem xa_do' (i : Nat) (hX : XH ops E QE n) (hi : ops[i]? = some ⟨d, op, ty, pos, aft, g⟩) (hr : Region.ready .any ops listed = [i]) (h : XS P ops (doneE P ops E H QE n fuel (listed.setIfInBounds i true)) n [⟨d, op, ty, pos, aft, g⟩] env w) : XA P ops E H QE n (fuel + 1) listed env w := xa_do i hX hi hr h
theorem xa_set (s : Nat) {v : Value} (hb : env s = v) (k : XA P ops E H QE n fuel listed (upd env s v) w) : XA P ops E H QE n fuel listed env w := by
  have : upd env s v = env := funext fun i => by
    by_cases e : i = s
    · subst e; rw [upd_same, hb]
    · rw [upd_ne _ _ e]
  rwa [this] at k
theorem xa_late (s : Nat) {b : Bool} (hb : env s = .bool b) (k : ∀ c, b = c → XA P ops E H QE n fuel listed (upd env s (.bool c)) w) : XA P ops E H QE n fuel listed env w := xa_set s hb (k b rfl)
theorem xa_done (hr : Region.ready .any ops listed = []) (h : QE .normal env w) : XA P ops E H QE n fuel listed env w := fun a hf => by
  cases fuel with
  | zero => exact ⟨hr, env, hf, h⟩
  | succ k => exact ⟨fun _ => ⟨env, hf, h⟩, by rw [hr]; simp⟩
theorem xc_draw (E : List Nat) {T : Tab} {id : Nat} {ops : Array Oper} (hT : TabOk P T) (hs : St wb D H w) (hX : XH ops E QE n) (k : XH ops E QE n → ∀ w', St wb D H w' → XA P ops E H QE n ops.size (Array.replicate ops.size false) env w') : XC P QE n (.region id ops true) env w := fun a hf =>
  wp_region_any hT.mixed (wpAny_of_L _ _ _ _ (k hX _ hs.drew a hf))
theorem hold_cons {b : Nat} {o : Obj} {nw : Bool} (h : w.heap[b]? = some o) (h' : Hold H w) : Hold ((b, o, nw) :: H) w := fun x hx => by
  rcases List.mem_cons.1 hx with rfl | hx
  · exact h
  · exact h' x hx
theorem xc_drawR (E : List Nat) (HH : List Ent) {T : Tab} {id : Nat} {ops : Array Oper} (hT : TabOk P T) (hs : St wb D H w) (hX : XH ops E QE n) (k : XH ops E QE n → ∀ w', St wb D H w' → XA P ops E HH QE n ops.size (Array.replicate ops.size false) env w') : XC P QE n (.region id ops true) env w := fun a hf =>
  wp_region_any hT.mixed (wpAny_of_L _ _ _ _ (k hX _ hs.drew a hf))
theorem Hold.tail {e : Ent} (h : Hold (e :: H) w) : Hold H w := fun x hx => h x (List.mem_cons_of_mem _ hx)
theorem se_hold (h : Hold H w) : SE E H listed w := fun _ => h
theorem se_done (h : (E.all fun e => !listed.getD e false) = false) : SE E H listed w := fun h' => by rw [h] at h'; cases h'
end
end Go.Proofs.YtkkelelmdbemmaaDoorX
