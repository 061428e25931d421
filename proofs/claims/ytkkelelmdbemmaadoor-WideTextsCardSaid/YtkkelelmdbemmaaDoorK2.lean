/- The calculus: a region that draws, where more than one operation is ready; entries in another order. -/
import Derived.Test.YtkkelelmdbemmaaDoorK
set_option linter.unusedVariables false
set_option linter.unusedSimpArgs false
namespace Go.Proofs.YtkkelelmdbemmaaDoorX
open Go Go.RowKit
section
variable {P : Program} {ops : Array Oper} {E : List Nat} {H : List Ent} {QE : Exit → Env → World → Prop} {n : Nat} {env : Env} {w wb : World} {D : Ctx} {fuel : Nat} {listed : Array Bool}
theorem xa_core (i : Nat) {o : Oper} (hX : XH ops E QE n) (hi : ops[i]? = some o) (h : XS P ops (doneE P ops E H QE n fuel (listed.setIfInBounds i true)) n [o] env w) (a : Act) (hf : Fits n env a) :
    wpOp P ops (lift n QE) i (fun a' w' => SE E H (listed.setIfInBounds i true) w' ∧ wpAnyL P ops (lift n QE) (SE E H) fuel (listed.setIfInBounds i true) a' w') a w := by
  have hd : dOk n o = true := List.all_eq_true.1 hX.dst o (by have := Array.mem_of_getElem? hi; simpa using this)
  have h := h (by simp [hd]) a hf
  have hp : ∀ c a w, lift n (doneE P ops E H QE n fuel (listed.setIfInBounds i true)) (.panic c) a w → lift n QE (.panic c) a w := fun c a w ⟨env, hf, hq⟩ => ⟨env, hf, hq⟩
  have ho : LetsOut (lift n (doneE P ops E H QE n fuel (listed.setIfInBounds i true))) → LetsOut (lift n QE) := fun ⟨a, w, env, hf, hq⟩ => hq.elim
  unfold wpList at h
  unfold wpOp
  simp only [hi]
  split
  · rename_i hw
    rw [if_pos hw] at h
    rcases h with h | ⟨h1, h2⟩
    · refine .inl (upon_weaken hp ho (Oper.wp_mono (fun a' w' hn => ?_) h))
      simp only [wpList] at hn
      obtain ⟨env', hf', hS, hx⟩ := hn
      exact ⟨hS, hx a' hf'⟩
    · exact .inr ⟨h1, ho h2⟩
  · rename_i hw
    rw [if_neg hw] at h
    simp only [wpList] at h
    obtain ⟨env', hf', hS, hx⟩ := h
    exact ⟨hS, hx _ hf'⟩
theorem xa_do2 (i j : Nat) {d d' : Option Nat} {op op' : Op} {ty ty' : Nat} {pos pos' : String} {aft aft' : Array Edge} {g g' : Option (Nat × Bool)} (hX : XH ops E QE n) (hi : ops[i]? = some ⟨d, op, ty, pos, aft, g⟩ := by exact rfl) (hj : ops[j]? = some ⟨d', op', ty', pos', aft', g'⟩ := by exact rfl)
    (hr : Region.ready .any ops listed = [i, j] := by kernel_rfl) (h1 : XS P ops (doneE P ops E H QE n fuel (listed.setIfInBounds i true)) n [⟨d, op, ty, pos, aft, g⟩] env w) (h2 : XS P ops (doneE P ops E H QE n fuel (listed.setIfInBounds j true)) n [⟨d', op', ty', pos', aft', g'⟩] env w) : XA P ops E H QE n (fuel + 1) listed env w := by
  intro a hf
  refine ⟨fun h0 => (by rw [h0] at hr; cases hr), fun k hk => ?_⟩
  rw [hr] at hk
  simp only [List.mem_cons, List.not_mem_nil, or_false] at hk
  rcases hk with rfl | rfl
  · exact xa_core _ hX hi h1 a hf
  · exact xa_core _ hX hj h2 a hf
theorem xa_do3 (i j l : Nat) {d d' d'' : Option Nat} {op op' op'' : Op} {ty ty' ty'' : Nat} {pos pos' pos'' : String} {aft aft' aft'' : Array Edge} {g g' g'' : Option (Nat × Bool)} (hX : XH ops E QE n) (hi : ops[i]? = some ⟨d, op, ty, pos, aft, g⟩ := by exact rfl) (hj : ops[j]? = some ⟨d', op', ty', pos', aft', g'⟩ := by exact rfl) (hl : ops[l]? = some ⟨d'', op'', ty'', pos'', aft'', g''⟩ := by exact rfl)
    (hr : Region.ready .any ops listed = [i, j, l] := by kernel_rfl) (h1 : XS P ops (doneE P ops E H QE n fuel (listed.setIfInBounds i true)) n [⟨d, op, ty, pos, aft, g⟩] env w) (h2 : XS P ops (doneE P ops E H QE n fuel (listed.setIfInBounds j true)) n [⟨d', op', ty', pos', aft', g'⟩] env w)
    (h3 : XS P ops (doneE P ops E H QE n fuel (listed.setIfInBounds l true)) n [⟨d'', op'', ty'', pos'', aft'', g''⟩] env w) : XA P ops E H QE n (fuel + 1) listed env w := by
  intro a hf
  refine ⟨fun h0 => (by rw [h0] at hr; cases hr), fun k hk => ?_⟩
  rw [hr] at hk
  simp only [List.mem_cons, List.not_mem_nil, or_false] at hk
  rcases hk with rfl | rfl | rfl
  · exact xa_core _ hX hi h1 a hf
  · exact xa_core _ hX hj h2 a hf
  · exact xa_core _ hX hl h3 a hf
/-- The entries in another order. -/
theorem St.perm {H' : List Ent} (hs : St wb D H w) (h : H'.Perm H) : St wb D H' w :=
  { hs with
    at_ := fun e he => hs.at_ e (h.mem_iff.1 he)
    nd := (h.map _).nodup_iff.2 hs.nd
    new := fun p hp => hs.new p ((h.map _).mem_iff.1 hp)
    frame := fun k h1 h2 h3 => hs.frame k h1 h2 (fun h4 => h3 ((h.map _).mem_iff.2 h4))
    ap := fun e he h4 => hs.ap e he ((h.map _).mem_iff.1 h4) }
end
section
variable {ops : Array Oper} {QE : Exit → Env → World → Prop} {n : Nat} {rest : List Oper} {env : Env} {w wb : World} {d : Option Nat} {ty : Nat} {pos : String} {aft : Array Edge} {g : Option (Nat × Bool)}
/-- A load of two cells. -/
theorem lh2 {t b off : Nat} {x : Operand} {cs : List Value} {E : TypeId} {fr : Nat × Nat} {v0 v1 : Value} (hb : w.heap[b]? = some (.cells cs.toArray E fr)) (h0 : cs[off]? = some v0) (h1 : cs[off + 1]? = some v1) (hw : wantedE ops env g = true := by exact rfl) (ht : look t tab.tks = some (true, 2) := by exact rfl)
    (hp : ev env x = .pointer (some ⟨b, off, none⟩) := by exact rfl)
    (k : XS Tryd.prog ops QE n rest (updO env d (.agg #[v0, v1])) w) : XS Tryd.prog ops QE n (⟨d, .load t x, ty, pos, aft, g⟩ :: rest) env w :=
  have hc : Pick cs off 2 [v0, v1] := .cons h0 (.cons h1 .nil)
  xs_val hw (by simp [execOp, hp, Instr.loadAt, Instr.sureAddr, Sem.run_bind, run_loadVar_agg (tabOk.tk ht) hb hc.le, hc.eq.2]) k
end
end Go.Proofs.YtkkelelmdbemmaaDoorX
