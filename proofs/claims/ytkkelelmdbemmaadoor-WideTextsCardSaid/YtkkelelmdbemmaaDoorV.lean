/- The calculus, slices of one's own: append, make. Nothing of the program stands here. -/
import Derived.Test.YtkkelelmdbemmaaDoorZ
set_option linter.unusedVariables false
set_option linter.unusedSimpArgs false
namespace Go.Proofs.YtkkelelmdbemmaaDoorX
open Go Go.RowKit
/-- A slice of one's own: nil, or the head of the list. -/
def OwnS (wb : World) (D : Ctx) (H : List Ent) (e k : Nat) (v : Value) (n : Nat) (xs : List Value) (w : World) : Prop :=
  (v = .slice none 0 0 ∧ n = 0 ∧ xs = [] ∧ St wb D H w) ∨
  ∃ (g cap : Nat) (cur : List Value), v = .slice (some ⟨g, 0, none⟩) n cap ∧ n ≤ cap ∧ cur.length = cap * k ∧ xs.length = n * k ∧ cur.take (n * k) = xs ∧ St wb D ((g, .cells cur.toArray e (0, 0), true) :: H) w
section
variable {P : Program} {ops : Array Oper} {QE : Exit → Env → World → Prop} {n : Nat} {rest : List Oper} {env : Env} {w wb : World} {D : Ctx} {H : List Ent} {T : Tab}
  {d : Option Nat} {ty : Nat} {pos : String} {aft : Array Edge} {g : Option (Nat × Bool)}
theorem z_parts {t : Nat} {zs : List Value} (h : zeroOf P t = some zs.toArray) : ∃ i z, P.info? t = some i ∧ i.zero = some z ∧ z.cells = zs.toArray := by
  unfold zeroOf at h
  obtain ⟨i, hi, h⟩ := Option.bind_eq_some_iff.1 h
  obtain ⟨z, hz, hc⟩ := Option.map_eq_some_iff.1 h
  exact ⟨i, z, hi, hz, hc⟩
theorem lit_cells {b : Nat} {news : List Value} {e : TypeId} {w : World} (hb : w.heap[b]? = some (.cells news.toArray e (0, 0))) : ∀ j u, news[j]? = some u → w.cell? ((⟨b, 0, none⟩ : Addr).add j) = some u := fun j u hj => by
  rw [add_addr]; simp [World.cell?, hb, hj]
theorem zero_list (z : Array Value) (n : Nat) : (Builtin.zeroCells z n).toList.length = n * z.size := by simp [Builtin.zeroCells]
theorem append_run {t e size bytes : Nat} {zs : List Value} (hu : P.underlying t = some (.slice e)) {i : TypeInfo} (hi : P.info? e = some i) (hs1 : i.size = size) (hs2 : i.bytes = bytes) {z : Value} (hz : i.zero = some z) (hzc : z.cells.size = size)
    {v : Value} {k : Nat} {xs news : List Value} {b m : Nat} (hO : OwnS wb D ((b, .cells news.toArray e (0, 0), true) :: H) e size v k xs w) (hl : news.length = size) (hsz : 0 < size) (h1 : ∀ u ∈ news, u.oneCell' = true)
    (hk : (k + 1) * bytes ≤ 140737488355328) (hk' : k + 1 ≤ maxLen) :
    ∃ v' w', (Builtin.append_ #[t, t] ty #[v, .slice (some ⟨b, 0, none⟩) 1 m]).run P w = .ok v' w' ∧ OwnS wb D H e size v' (k + 1) (xs ++ news) w' ∧ v' ≠ .slice none 0 0 := by
  subst hs1 hs2
  have hsmall : k + 1 ≤ 9223372036854775807 := by simp only [maxLen] at hk'; omega
  rcases hO with ⟨rfl, rfl, rfl, hs⟩ | ⟨g, cap, cur, rfl, hc, hcl, hxl, htk, hs⟩
  · have hb := hs.get At.head
    have hr := run_append_nil (P := P) w t ty e i z hu hi hz ⟨b, 0, none⟩ 1 m news (by omega) (lit_cells hb) (by omega) (by omega) (by omega)
    refine ⟨_, _, hr, .inr ⟨w.heap.size, grownCap w 1 0 e, (news.toArray ++ Builtin.zeroCells z.cells (grownCap w 1 0 e - 1)).toList, rfl, grownCap_ge w 1 0 e, ?_, ?_, ?_, (hs.drew'.alloc _).swap.forgetNew⟩, by simp⟩
    · have := grownCap_ge w 1 0 e
      simp only [Array.toList_append, List.length_append, zero_list, hzc, hl]
      rw [show grownCap w 1 0 e = (grownCap w 1 0 e - 1) + 1 by omega, Nat.add_mul]
      simp [Nat.add_comm]
    · simp [hl]
    · rw [List.nil_append, Array.toList_append, List.take_append_of_le_length (by simp [hl])]
      exact List.take_of_length_le (by simp [hl])
  · have hb := hs.get (At.tail At.head)
    have hg := hs.get At.head
    by_cases hroom : k + 1 ≤ cap
    · have hfit : k * i.size + news.length ≤ cur.toArray.size := by
        rw [hl, List.size_toArray, hcl, ← Nat.succ_mul]; exact Nat.mul_le_mul_right _ hroom
      have hr := run_append_room (P := P) w t ty e i hu hi g k cap cur.toArray hg ⟨b, 0, none⟩ 1 m news (by omega) (lit_cells hb) h1 hroom hfit
      simp only [List.size_toArray] at hfit
      refine ⟨_, _, hr, .inr ⟨g, cap, (cur.take (k * i.size) ++ news ++ cur.drop (k * i.size + news.length)), rfl, hroom, ?_, ?_, ?_, (hs.row At.head _).swap.forgetNew⟩, by simp⟩
      · simp only [List.length_append, List.length_take, List.length_drop]
        omega
      · rw [List.length_append, hxl, hl, Nat.succ_mul]
      · rw [List.append_assoc, ← List.append_assoc, htk, List.take_append_of_le_length (by rw [List.length_append, hxl, hl, Nat.succ_mul]; exact Nat.le_refl _)]
        exact List.take_of_length_le (by rw [List.length_append, hxl, hl, Nat.succ_mul]; exact Nat.le_refl _)
    · have hold : ∀ j u, xs[j]? = some u → w.cell? ((⟨g, 0, none⟩ : Addr).add j) = some u := fun j u hj => by
        rw [add_addr]
        rw [← htk, List.getElem?_take] at hj
        split at hj
        · simp [World.cell?, hg, hj]
        · cases hj
      have hr := run_append_grow (P := P) w t ty e i z hu hi hz ⟨g, 0, none⟩ k cap xs hxl hold ⟨b, 0, none⟩ 1 m news (by omega) (lit_cells hb) (by omega) (by omega) (growslice_fits (by omega) hk)
      have hge := grownCap_ge w (k + 1) cap e
      refine ⟨_, _, hr, .inr ⟨w.heap.size, grownCap w (k + 1) cap e, (xs.toArray ++ news.toArray ++ Builtin.zeroCells z.cells (grownCap w (k + 1) cap e - (k + 1))).toList, rfl, hge, ?_, ?_, ?_, (hs.drew'.alloc _).swap.forgetNew.swap.forgetNew⟩, by simp⟩
      · simp only [Array.toList_append, List.length_append, zero_list, hzc, hl, hxl]
        rw [← Nat.succ_mul, ← Nat.add_mul]; congr 1; omega
      · rw [List.length_append, hxl, hl, Nat.succ_mul]
      · rw [Array.toList_append, Array.toList_append, List.take_append_of_le_length (by simp [hxl, hl, Nat.succ_mul])]
        exact List.take_of_length_le (by simp [hxl, hl, Nat.succ_mul])
theorem xs_append (hT : TabOk P T) {t e size bytes : Nat} {zs news : List Value} {x y : Operand} {v : Value} {k b m : Nat} {xs : List Value} (hw : wantedE ops env g = true) (hsl : look t T.sls = some (e, size, bytes)) (hz : look e T.zs = some zs) (hzl : Nat.beq zs.length size = true) (hsz : Nat.blt 0 size = true)
    (hx : ev env x = v) (hy : ev env y = .slice (some ⟨b, 0, none⟩) 1 m) (hl : Nat.beq news.length size = true) (h1 : news.all Value.oneCell' = true) (hO : OwnS wb D ((b, .cells news.toArray e (0, 0), true) :: H) e size v k xs w)
    (hk : (k + 1) * bytes ≤ 140737488355328) (hk' : k + 1 ≤ maxLen) (kk : ∀ v' w', OwnS wb D H e size v' (k + 1) (xs ++ news) w' → v' ≠ .slice none 0 0 → XS P ops QE n rest (updO env d v') w') :
    XS P ops QE n (⟨d, .call { callee := .builtin .append, args := #[x, y], argTypes := #[t, t] }, ty, pos, aft, g⟩ :: rest) env w := by
  obtain ⟨hu, i, hi, hs1, hs2⟩ := sl_parts (hT.sl hsl)
  obtain ⟨i', z, hi', hz', hzc⟩ := z_parts (hT.z hz)
  rw [hi] at hi'; cases hi'
  obtain ⟨v', w', hr, h2, h3⟩ := append_run (P := P) (ty := ty) (zs := zs) (m := m) hu hi hs1 hs2 hz' (by rw [hzc]; simpa using Nat.eq_of_beq_eq_true hzl) hO (Nat.eq_of_beq_eq_true hl) (Nat.lt_of_succ_le (Nat.le_of_ble_eq_true hsz)) (List.all_eq_true.1 h1) hk hk'
  refine XS.value hw (v := v') (w' := w') ?_ (kk v' w' h2 h3)
  simp [execOp, resolve, Sem.run_bind, invoke, builtin, hx, hy, hr]
theorem putL_set : ∀ {cs : List Value} {off : Nat} {v : Value}, off < cs.length → PutL cs off [v] (cs.set off v)
  | [], _, _, h => absurd h (Nat.not_lt_zero _)
  | c :: cs, 0, v, _ => PutL.cons PutL.nil
  | c :: cs, off + 1, v, h => PutL.skip (putL_set (Nat.lt_of_succ_lt_succ h))
theorem made_one (z0 : Value) (n : Nat) : madeCells #[z0] (n * 1) = (List.replicate n z0).toArray := by
  apply Array.toList_inj.1
  simp only [madeCells, Array.toList_map, Array.toList_range, Nat.mul_one]
  apply List.ext_getElem
  · simp
  · intro i h1 h2
    simp [Nat.mod_one]
/-- make of a slice whose elements are one cell each. -/
theorem xs_make (hT : TabOk P T) {t e bytes m : Nat} {z0 : Value} {x y : Operand} {kl kc : IntKind} (hw : wantedE ops env g = true) (hsl : look t T.sls = some (e, 1, bytes)) (hz : look e T.zs = some [z0])
    (hx : ev env x = .int kl (m : Nat)) (hy : ev env y = .int kc (m : Nat)) (hb : bytes * m ≤ 281474976710656) (hm : m ≤ 9223372036854775807) (hs : St wb D H w)
    (k : ∀ b w', w'.heap.size = w.heap.size + 1 → St wb D ((b, .cells (List.replicate m z0).toArray e, true) :: H) w' → XS P ops QE n rest (updO env d (.slice (some ⟨b, 0, none⟩) m m)) w') :
    XS P ops QE n (⟨d, .makeSlice t x y, ty, pos, aft, g⟩ :: rest) env w := by
  obtain ⟨hu, i, hi, hs1, hs2⟩ := sl_parts (hT.sl hsl)
  obtain ⟨i', z, hi', hz', hzc⟩ := z_parts (hT.z hz)
  rw [hi] at hi'; cases hi'
  have hr := run_make (P := P) w t e i z hu hi hz' kl kc (m : Nat) (m : Nat) (by omega) (Int.le_refl _) (by rw [hs2, ← Int.natCast_mul]; omega) (by omega)
  rw [hs1, hzc, Int.toNat_natCast, made_one] at hr
  refine XS.value hw (v := .slice (some ⟨w.heap.size, 0, none⟩) m m) (w' := w.alloc (.cells (List.replicate m z0).toArray e)) ?_ (k w.heap.size _ (by simp) (hs.alloc _))
  simp [execOp, hx, hy, Sem.run_bind, hr]
end
end Go.Proofs.YtkkelelmdbemmaaDoorX
