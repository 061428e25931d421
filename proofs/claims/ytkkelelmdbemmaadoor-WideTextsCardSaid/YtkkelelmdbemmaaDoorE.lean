/- The calculus: == on structs whose cells are all numbers and bools. Nothing of the program stands here. -/
import Derived.Test.YtkkelelmdbemmaaDoorZ
set_option linter.unusedVariables false
set_option linter.unusedSimpArgs false
namespace Go.Proofs.YtkkelelmdbemmaaDoorX
open Go Go.RowKit

def cellEq : Value → Value → Bool
  | .int _ a, .int _ b => a == b
  | .bool a, .bool b => a == b
  | _, _ => false
def sameK : Bool → Value → Value → Bool
  | false, .int k _, .int k' _ => decide (k = k')
  | true, .bool _, .bool _ => true
  | _, _, _ => false
section
variable {P : Program}
def fieldsLeaves (P : Program) (d : Nat) (fs : List Field) : Option (List (Nat × Bool)) := fs.foldr (fun f acc => match leaves P d f.type, acc, P.info? f.type with
        | some l, some r, some i => if f.name = "_" ∨ ¬ (l.all fun j => decide (j.1 < i.size)) = true then none else some (l.map (fun j => (f.offset + j.1, j.2)) ++ r)
        | _, _, _ => none) (some [])
/-- The value of a type whose cells are X. -/
def IsVal (P : Program) (t : Nat) (X : Array Value) (x : Value) : Prop := match P.underlying t with
  | some (.struct _) => x = .agg X
  | _ => X[0]? = some x
def Pairs (l : List (Nat × Bool)) (X Y : Array Value) : Prop := ∀ j ∈ l, ∃ u v, X[j.1]? = some u ∧ Y[j.1]? = some v ∧ sameK j.2 u v = true
def eqAt (l : List (Nat × Bool)) (X Y : Array Value) : Bool := l.all fun j => cellEq (X.getD j.1 undef) (Y.getD j.1 undef)

theorem eqAt_append (l r : List (Nat × Bool)) (X Y : Array Value) : eqAt (l ++ r) X Y = (eqAt l X Y && eqAt r X Y) := by simp [eqAt]
theorem getD_extract {X : Array Value} {o n j : Nat} (hj : j < n) (d : Value) : (X.extract o (o + n)).getD j d = X.getD (o + j) d := by
  simp only [Array.getD_eq_getD_getElem?]
  congr 1
  rw [Array.getElem?_extract]
  split
  · rfl
  · rename_i h; rw [Array.getElem?_eq_none (by omega)]
theorem getElem?_extract' {X : Array Value} {o n j : Nat} (hj : j < n) : (X.extract o (o + n))[j]? = X[o + j]? := by
  rw [Array.getElem?_extract]
  split
  · rfl
  · rename_i h; rw [Array.getElem?_eq_none (by omega)]

theorem equalIn_leaves : ∀ (d e t : Nat) (l : List (Nat × Bool)), leaves P d t = some l → ∀ (X Y : Array Value) (x y : Value) (w : World), IsVal P t X x → IsVal P t Y y → Pairs l X Y →
    (Op.equalIn (d + e) t x y).run P w = .ok (eqAt l X Y) w
  | 0, _, _, _, h => by simp [leaves] at h
  | d + 1, e, t, l, h => by
    intro X Y x y w hx hy hp
    have hde : d + 1 + e = (d + e) + 1 := by omega
    rw [hde]
    unfold leaves at h
    unfold IsVal at hx hy
    split at h
    · rename_i k hu
      simp at h; subst h
      rw [hu] at hx hy
      obtain ⟨u, v, h1, h2, h3⟩ := hp _ (List.mem_singleton.2 rfl)
      simp only [hx] at h1; simp only [hy] at h2
      cases h1; cases h2
      cases x <;> cases y <;> simp [sameK] at h3
      · subst h3
        simp only [Op.equalIn, Sem.run_bind, run_underlying' hu, Result.andThen_ok, Sem.run_pure]
        simp [eqAt, cellEq, Array.getD_eq_getD_getElem?, hx, hy]
    · rename_i hu
      simp at h; subst h
      rw [hu] at hx hy
      obtain ⟨u, v, h1, h2, h3⟩ := hp _ (List.mem_singleton.2 rfl)
      simp only [hx] at h1; simp only [hy] at h2
      cases h1; cases h2
      cases x <;> cases y <;> simp [sameK] at h3
      · simp only [Op.equalIn, Sem.run_bind, run_underlying' hu, Result.andThen_ok, Sem.run_pure]
        simp [eqAt, cellEq, Array.getD_eq_getD_getElem?, hx, hy]
    · rename_i fs hu
      rw [hu] at hx hy
      simp only at hx hy
      subst hx; subst hy
      split at h
      · cases h
      · rename_i hst
        have hfo : P.fieldsOf t = fs := by simp [Program.fieldsOf, hu]
        rw [run_equalIn_struct w (d + e) t X Y (by rw [hfo]; exact hu) (by simpa using hst), hfo]
        have key : ∀ (fl : List Field) (l : List (Nat × Bool)), fieldsLeaves P d fl = some l → Pairs l X Y → (Op.eqFields (d + e) X Y fl).run P w = .ok (eqAt l X Y) w := by
          intro fl
          induction fl with
          | nil => intro l hl _; simp [fieldsLeaves] at hl; subst hl; simp [Op.eqFields, eqAt]
          | cons f fl ih =>
            intro l hl hp
            unfold fieldsLeaves at hl
            simp only [List.foldr_cons] at hl
            split at hl
            · rename_i lf r i h1 h2 h3
              split at hl
              · cases hl
              · rename_i hc
                simp only [not_or, Decidable.not_not] at hc
                obtain ⟨hname, hall⟩ := hc
                simp at hl; subst hl
                have hlt : ∀ j ∈ lf, j.1 < i.size := fun j hj => by have := List.all_eq_true.1 hall j hj; simpa using this
                have hpr : Pairs r X Y := fun j hj => hp j (List.mem_append_right _ hj)
                have hpl : Pairs lf (X.extract f.offset (f.offset + i.size)) (Y.extract f.offset (f.offset + i.size)) := fun j hj => by
                  rw [getElem?_extract' (hlt j hj), getElem?_extract' (hlt j hj)]
                  exact hp (f.offset + j.1, j.2) (List.mem_append_left _ (List.mem_map_of_mem (f := fun j => (f.offset + j.1, j.2)) hj))
                have hpart : ∀ (Z : Array Value), (∀ j ∈ lf, ∃ u, Z[f.offset + j.1]? = some u) → ∃ z, (part f.type Z f.offset).run P w = .ok z w ∧ IsVal P f.type (Z.extract f.offset (f.offset + i.size)) z := by
                  intro Z hZ
                  unfold IsVal
                  cases d with
                  | zero => simp [leaves] at h1
                  | succ d' =>
                    unfold leaves at h1
                    split at h1
                    · rename_i k hu'
                      simp at h1; subst h1
                      obtain ⟨u, hu2⟩ := hZ _ (List.mem_singleton.2 rfl)
                      have h0 : 0 < i.size := hlt _ (List.mem_singleton.2 rfl)
                      refine ⟨u, ?_, ?_⟩
                      · simp only [part, isAgg, Sem.run_bind, run_underlying' hu', Result.andThen_ok, Sem.run_pure, Bool.false_eq_true, if_false]
                        rw [Nat.add_zero] at hu2
                        simp [hu2]
                      · rw [hu']; simp only; rw [getElem?_extract' h0]; exact hu2
                    · rename_i hu'
                      simp at h1; subst h1
                      obtain ⟨u, hu2⟩ := hZ _ (List.mem_singleton.2 rfl)
                      have h0 : 0 < i.size := hlt _ (List.mem_singleton.2 rfl)
                      refine ⟨u, ?_, ?_⟩
                      · simp only [part, isAgg, Sem.run_bind, run_underlying' hu', Result.andThen_ok, Sem.run_pure, Bool.false_eq_true, if_false]
                        rw [Nat.add_zero] at hu2
                        simp [hu2]
                      · rw [hu']; simp only; rw [getElem?_extract' h0]; exact hu2
                    · rename_i fs' hu'
                      refine ⟨.agg (Z.extract f.offset (f.offset + i.size)), ?_, ?_⟩
                      · simp [part, isAgg, Sem.run_bind, run_underlying' hu', sizeOf, run_typeInfo' h3]
                      · rw [hu']
                    · cases h1
                obtain ⟨zx, hzx, hvx⟩ := hpart X (fun j hj => by obtain ⟨u, v, a, b, c⟩ := hp (f.offset + j.1, j.2) (List.mem_append_left _ (List.mem_map_of_mem (f := fun j => (f.offset + j.1, j.2)) hj)); exact ⟨u, a⟩)
                obtain ⟨zy, hzy, hvy⟩ := hpart Y (fun j hj => by obtain ⟨u, v, a, b, c⟩ := hp (f.offset + j.1, j.2) (List.mem_append_left _ (List.mem_map_of_mem (f := fun j => (f.offset + j.1, j.2)) hj)); exact ⟨v, b⟩)
                have ihd := equalIn_leaves d e f.type lf h1 _ _ zx zy w hvx hvy hpl
                have heq : eqAt lf (X.extract f.offset (f.offset + i.size)) (Y.extract f.offset (f.offset + i.size)) = eqAt (lf.map fun j => (f.offset + j.1, j.2)) X Y := by
                  unfold eqAt
                  rw [List.all_map, Bool.eq_iff_iff]
                  simp only [List.all_eq_true]
                  constructor
                  · intro hh j hj; have := hh j hj; rw [getD_extract (hlt j hj), getD_extract (hlt j hj)] at this; exact this
                  · intro hh j hj; have := hh j hj; rw [getD_extract (hlt j hj), getD_extract (hlt j hj)]; exact this
                rw [heq] at ihd
                simp only [Op.eqFields, if_pos hname, Sem.run_bind, hzx, Result.andThen_ok, hzy, ihd, eqAt_append]
                cases hb : eqAt (lf.map fun j => (f.offset + j.1, j.2)) X Y
                · simp
                · simp [ih r h2 hpr]
            · cases hl
        exact key fs.toList l h hp
    · cases h

/-- Cells side by side, one by one. -/
inductive Zip : List (Nat × Bool) → List Value → List Value → Bool → Prop
  | nil {X Y : List Value} : Zip [] X Y true
  | last {j : Nat} {b r : Bool} {X Y : List Value} {u v : Value} : X[j]? = some u → Y[j]? = some v → sameK b u v = true → cellEq u v = r → Zip [(j, b)] X Y r
  | cons {j : Nat} {b r r' : Bool} {l : List (Nat × Bool)} {X Y : List Value} {u v : Value} : X[j]? = some u → Y[j]? = some v → sameK b u v = true → cellEq u v = r → Zip l X Y r' → Zip ((j, b) :: l) X Y (r && r')
theorem Zip.eq {l : List (Nat × Bool)} {X Y : List Value} {r : Bool} (h : Zip l X Y r) : Pairs l X.toArray Y.toArray ∧ eqAt l X.toArray Y.toArray = r := by
  induction h with
  | nil => exact ⟨fun j hj => (by cases hj), rfl⟩
  | last h1 h2 h3 h4 =>
    refine ⟨fun j hj => ?_, ?_⟩
    · rcases List.mem_singleton.1 hj with rfl
      exact ⟨_, _, by simpa using h1, by simpa using h2, h3⟩
    · simp [eqAt, Array.getD_eq_getD_getElem?, h1, h2, h4]
  | cons h1 h2 h3 h4 _ ih =>
    refine ⟨fun j hj => ?_, ?_⟩
    · rcases List.mem_cons.1 hj with rfl | hj
      · exact ⟨_, _, by simpa using h1, by simpa using h2, h3⟩
      · exact ih.1 j hj
    · have := ih.2
      unfold eqAt at this ⊢
      simp [Array.getD_eq_getD_getElem?, h1, h2, h4] at this ⊢
      rw [this]
variable {env : Env} {w : World} {d : Option Nat} {ty : Nat} {pos : String} {aft : Array Edge} {g : Option (Nat × Bool)}
theorem flat_run {t : Nat} {l : List (Nat × Bool)} (h : flatOk P t l = true) {X Y : List Value} {r : Bool} (hz : Zip l X Y r) (w : World) : (Op.equalIn 10000 t (.agg X.toArray) (.agg Y.toArray)).run P w = .ok r w := by
  simp only [flatOk, Bool.and_eq_true, Bool.not_eq_true'] at h
  obtain ⟨⟨h1, h2⟩, h3⟩ := h
  split at h1
  · rename_i l' hl
    have : l' = l := by simpa using h1
    subst this
    split at h3
    · rename_i fs hu
      have := equalIn_leaves (P := P) 20 9980 t l' hl X.toArray Y.toArray (.agg X.toArray) (.agg Y.toArray) w (by unfold IsVal; rw [hu]) (by unfold IsVal; rw [hu]) hz.eq.1
      rw [hz.eq.2] at this
      exact this
    · cases h3
  · cases h1
theorem flat_guard {t : Nat} {l : List (Nat × Bool)} (h : flatOk P t l = true) (op : BinOp) (x y : Operand) (X Y : Array Value) (w : World) : (eqGuard op t x y (.agg X) (.agg Y)).run P w = .ok () w := by
  simp only [flatOk, Bool.and_eq_true, Bool.not_eq_true'] at h
  exact run_eqGuard_agg w op t x y X Y h.1.2
theorem r_eqA {T : Tab} (hT : TabOk P T) {t t' : Nat} {l : List (Nat × Bool)} {x y : Operand} {X Y : List Value} {r : Bool} (h : look t T.flats = some l) (hx : ev env x = .agg X.toArray) (hy : ev env y = .agg Y.toArray) (hz : Zip l X Y r) :
    (execOp (ev env) (⟨d, .binOp .eql t x y t', ty, pos, aft, g⟩ : Oper)).run P w = .ok (.value (.bool r)) w :=
  r_binX (by rw [hx, hy]; exact flat_guard (hT.flat h) _ _ _ _ _ _) (by rw [hx, hy, run_eql_struct, flat_run (hT.flat h) hz]; rfl)
theorem r_neA {T : Tab} (hT : TabOk P T) {t t' : Nat} {l : List (Nat × Bool)} {x y : Operand} {X Y : List Value} {r : Bool} (h : look t T.flats = some l) (hx : ev env x = .agg X.toArray) (hy : ev env y = .agg Y.toArray) (hz : Zip l X Y r) :
    (execOp (ev env) (⟨d, .binOp .neq t x y t', ty, pos, aft, g⟩ : Oper)).run P w = .ok (.value (.bool (!r))) w :=
  r_binX (by rw [hx, hy]; exact flat_guard (hT.flat h) _ _ _ _ _ _) (by rw [hx, hy, run_neq_struct, flat_run (hT.flat h) hz]; rfl)
end
end Go.Proofs.YtkkelelmdbemmaaDoorX
