/- The calculus: strings as lists of bytes. -/
import Derived.Test.YtkkelelmdbemmaaDoorK2
set_option linter.unusedVariables false
set_option linter.unusedSimpArgs false
namespace Go.Proofs.YtkkelelmdbemmaaDoorX
open Go Go.RowKit
/-- A string of these bytes. -/
abbrev strV (l : List UInt8) : Value := .string ⟨l.toArray⟩
section
variable {P : Program} {env : Env} {w : World} {d : Option Nat} {ty : Nat} {pos : String} {aft : Array Edge} {g : Option (Nat × Bool)}
theorem r_addS {t t' : Nat} {x y : Operand} {a b : List UInt8} (hx : ev env x = strV a) (hy : ev env y = strV b) (hl : a.length + b.length ≤ 9223372036854775807) :
    (execOp (ev env) (⟨d, .binOp .add t x y t', ty, pos, aft, g⟩ : Oper)).run P w = .ok (.value (strV (a ++ b))) w := by
  have e : (⟨a.toArray⟩ : ByteArray) ++ ⟨b.toArray⟩ = ⟨(a ++ b).toArray⟩ := ByteArray.ext (by rw [ByteArray.data_append]; simp)
  simp [execOp, hx, hy, eqGuard, binOp, Sem.run_bind, Op.stringOp, e]
  have h1 : ByteArray.size ⟨a.toArray⟩ = a.length := rfl
  have h2 : ByteArray.size ⟨b.toArray⟩ = b.length := rfl
  rw [h1, h2]
  omega
theorem r_lenStr {x : Operand} {t : Nat} {ats : Array TypeId} {a : List UInt8} (hat : ats[0]? = some t) (hu : P.underlying t = some .string) (hx : ev env x = strV a) :
    (execOp (ev env) (⟨d, .call { callee := .builtin .len, args := #[x], argTypes := ats }, ty, pos, aft, g⟩ : Oper)).run P w = .ok (.value (.int .i64 a.length)) w := by
  simp [execOp, resolve, Sem.run_bind, invoke, builtin, Builtin.len_, hat, hx, run_underlying' hu, goInt]
  rfl
theorem r_eqStr {t t' : Nat} {x y : Operand} {a b : List UInt8} (hu : P.underlying t = some .string) (hx : ev env x = strV a) (hy : ev env y = strV b) :
    (execOp (ev env) (⟨d, .binOp .eql t x y t', ty, pos, aft, g⟩ : Oper)).run P w = .ok (.value (.bool (decide (a = b)))) w := by
  have e : ((⟨a.toArray⟩ : ByteArray).toList == (⟨b.toArray⟩ : ByteArray).toList) = decide (a = b) := by
    rw [ByteArray.toList_eq, ByteArray.toList_eq]
    show (a == b) = decide (a = b)
    by_cases h : a = b
    · subst h; simp
    · rw [decide_eq_false h]; simp [h]
  have e0 : (a == b) = decide (a = b) := by
    by_cases h : a = b
    · subst h; simp
    · rw [decide_eq_false h]; simp [h]
  simp [execOp, hx, hy, eqGuard, binOp, Sem.run_bind, Op.stringOp, e]
  exact e0
/-- The byte at i. -/
theorem r_idxStr {t : Nat} {x y : Operand} {a : List UInt8} {kk : IntKind} {i : Nat} {b : UInt8} (hu : P.underlying t = some .string) (hx : ev env x = strV a) (hy : ev env y = .int kk (i : Nat)) (hb : a[i]? = some b) :
    (execOp (ev env) (⟨d, .index t x y, ty, pos, aft, g⟩ : Oper)).run P w = .ok (.value (.int .u8 (b.toNat : Nat))) w := by
  have h : (⟨a.toArray⟩ : ByteArray)[i]? = some b := by
    have hlt : i < a.length := (List.getElem?_eq_some_iff.1 hb).1
    have he := (List.getElem?_eq_some_iff.1 hb).2
    rw [getElem?_pos (⟨a.toArray⟩ : ByteArray) i (show i < a.toArray.size by simpa using hlt)]
    exact congrArg some he
  simp [execOp, hx, hy, Instr.index, asIntOf, Sem.run_bind, run_underlying' hu, h]
/-- An end of a string. -/
theorem r_tailStr {t l : Nat} {x lo : Operand} {a : List UInt8} {kk : IntKind} (hu : P.underlying t = some .string) (hx : ev env x = strV a) (hlo : ev env lo = .int kk (l : Nat)) (hl : l ≤ a.length) :
    (execOp (ev env) (⟨d, .slice t x (some lo) none none, ty, pos, aft, g⟩ : Oper)).run P w = .ok (.value (strV (a.drop l))) w := by
  have h1 : ByteArray.size ⟨a.toArray⟩ = a.length := rfl
  have h2 : (⟨a.toArray⟩ : ByteArray).extract l a.length = ⟨(a.drop l).toArray⟩ := ByteArray.ext (by
    rw [ByteArray.data_extract]
    simp
    exact List.take_of_length_le (by simp))
  simp [execOp, Instr.sliceAt, Sem.run_bind, run_underlying' hu, hx, Instr.slice, Instr.sliceBounds, h1, bound_some hlo hl, h2]
end
end Go.Proofs.YtkkelelmdbemmaaDoorX
