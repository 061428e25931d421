/- The calculus: append of a slice of any length; an empty slice of one's own; a new base. Nothing of the program stands here. -/
import Derived.Test.YtjooegonmdmajaaV
set_option linter.unusedVariables false
set_option linter.unusedSimpArgs false
namespace Go.Proofs.YtjooegonmdmajaaX
open Go Go.RowKit
section
variable {P : Program} {ops : Array Oper} {QE : Exit → Env → World → Prop} {n : Nat} {rest : List Oper} {env : Env} {w wb : World} {D : Ctx} {H : List Ent} {T : Tab}
  {d : Option Nat} {ty : Nat} {pos : String} {aft : Array Edge} {g : Option (Nat × Bool)}
theorem append_many {t e size bytes : Nat} (hu : P.underlying t = some (.slice e)) {i : TypeInfo} (hi : P.info? e = some i) (hs1 : i.size = size) (hs2 : i.bytes = bytes) {z : Value} (hz : i.zero = some z) (hzc : z.cells.size = size)
    {v : Value} {k : Nat} {xs news : List Value} {a : Addr} {c m : Nat} (hO : OwnS wb D H e size v k xs w) (hl : news.length = c * size) (hc0 : 0 < c) (hcs : ∀ (j : Nat) u, news[j]? = some u → w.cell? (a.add j) = some u) (h1 : ∀ u ∈ news, u.oneCell' = true)
    (hk : (k + c) * bytes ≤ 140737488355328) (hk' : k + c ≤ 9223372036854775807) :
    ∃ v' w', (Builtin.append_ #[t, t] ty #[v, .slice (some a) c m]).run P w = .ok v' w' ∧ OwnS wb D H e size v' (k + c) (xs ++ news) w' ∧ v' ≠ .slice none 0 0 := by
  subst hs1 hs2
  have hcb : c * i.bytes ≤ 281474976710656 := by
    have := Nat.mul_le_mul_right i.bytes (show c ≤ k + c by omega)
    omega
  rcases hO with ⟨rfl, rfl, rfl, hs⟩ | ⟨g, cap, cur, rfl, hc, hcl, hxl, htk, hs⟩
  · have hr := run_append_nil (P := P) w t ty e i z hu hi hz a c m news hl hcs hc0 (by omega) hcb
    refine ⟨_, _, hr, .inr ⟨w.heap.size, grownCap w c 0 e, (news.toArray ++ Builtin.zeroCells z.cells (grownCap w c 0 e - c)).toList, by rw [Nat.zero_add], by rw [Nat.zero_add]; exact grownCap_ge w c 0 e, ?_, ?_, ?_, hs.drew'.alloc _⟩, by simp⟩
    · have := grownCap_ge w c 0 e
      simp only [Array.toList_append, List.length_append, zero_list, hzc, hl]
      rw [← Nat.add_mul]; congr 1; omega
    · rw [Nat.zero_add, List.nil_append, hl]
    · rw [List.nil_append, Nat.zero_add, Array.toList_append, List.take_append_of_le_length (by simp [hl])]
      exact List.take_of_length_le (by simp [hl])
  · have hg := hs.get At.head
    by_cases hroom : k + c ≤ cap
    · have hfit : k * i.size + news.length ≤ cur.toArray.size := by
        rw [hl, List.size_toArray, hcl, ← Nat.add_mul]; exact Nat.mul_le_mul_right _ hroom
      have hr := run_append_room (P := P) w t ty e i hu hi g k cap cur.toArray hg a c m news hl hcs h1 hroom hfit
      simp only [List.size_toArray] at hfit
      refine ⟨_, _, hr, .inr ⟨g, cap, (cur.take (k * i.size) ++ news ++ cur.drop (k * i.size + news.length)), rfl, hroom, ?_, ?_, ?_, hs.row At.head _⟩, by simp⟩
      · simp only [List.length_append, List.length_take, List.length_drop]
        omega
      · rw [List.length_append, hxl, hl, Nat.add_mul]
      · rw [List.append_assoc, ← List.append_assoc, htk, List.take_append_of_le_length (by rw [List.length_append, hxl, hl, Nat.add_mul]; exact Nat.le_refl _)]
        exact List.take_of_length_le (by rw [List.length_append, hxl, hl, Nat.add_mul]; exact Nat.le_refl _)
    · have hold : ∀ (j : Nat) u, xs[j]? = some u → w.cell? ((⟨g, 0, none⟩ : Addr).add j) = some u := fun j u hj => by
        rw [add_addr]
        rw [← htk, List.getElem?_take] at hj
        split at hj
        · simp [World.cell?, hg, hj]
        · cases hj
      have hr := run_append_grow (P := P) w t ty e i z hu hi hz ⟨g, 0, none⟩ k cap xs hxl hold a c m news hl hcs (by omega) (by omega) (growslice_fits (by omega) hk)
      have hge := grownCap_ge w (k + c) cap e
      refine ⟨_, _, hr, .inr ⟨w.heap.size, grownCap w (k + c) cap e, (xs.toArray ++ news.toArray ++ Builtin.zeroCells z.cells (grownCap w (k + c) cap e - (k + c))).toList, rfl, hge, ?_, ?_, ?_, (hs.drew'.alloc _).swap.forgetNew⟩, by simp⟩
      · simp only [Array.toList_append, List.length_append, zero_list, hzc, hl, hxl]
        rw [← Nat.add_mul, ← Nat.add_mul]; congr 1; omega
      · rw [List.length_append, hxl, hl, Nat.add_mul]
      · rw [Array.toList_append, Array.toList_append, List.take_append_of_le_length (by simp [hxl, hl, Nat.add_mul])]
        exact List.take_of_length_le (by simp [hxl, hl, Nat.add_mul])
/-- append(own, other...). -/
theorem xs_appendS (hT : TabOk P T) {t e size bytes : Nat} {zs news : List Value} {x y : Operand} {v : Value} {k c m : Nat} {a : Addr} {xs : List Value} (hw : wantedE ops env g = true) (hsl : look t T.sls = some (e, size, bytes)) (hz : look e T.zs = some zs) (hzl : Nat.beq zs.length size = true)
    (hx : ev env x = v) (hy : ev env y = .slice (some a) c m) (hl : news.length = c * size) (hc0 : 0 < c) (hcs : ∀ (j : Nat) u, news[j]? = some u → w.cell? (a.add j) = some u) (h1 : ∀ u ∈ news, u.oneCell' = true) (hO : OwnS wb D H e size v k xs w)
    (hk : (k + c) * bytes ≤ 140737488355328) (hk' : k + c ≤ 9223372036854775807) (kk : ∀ v' w', OwnS wb D H e size v' (k + c) (xs ++ news) w' → v' ≠ .slice none 0 0 → XS P ops QE n rest (updO env d v') w') :
    XS P ops QE n (⟨d, .call { callee := .builtin .append, args := #[x, y], argTypes := #[t, t] }, ty, pos, aft, g⟩ :: rest) env w := by
  obtain ⟨hu, i, hi, hs1, hs2⟩ := sl_parts (hT.sl hsl)
  obtain ⟨i', z, hi', hz', hzc⟩ := z_parts (hT.z hz)
  rw [hi] at hi'; cases hi'
  obtain ⟨v', w', hr, h2, h3⟩ := append_many (P := P) (ty := ty) (m := m) hu hi hs1 hs2 hz' (by rw [hzc]; simpa using Nat.eq_of_beq_eq_true hzl) hO hl hc0 hcs h1 hk hk'
  refine XS.value hw (v := v') (w' := w') ?_ (kk v' w' h2 h3)
  simp [execOp, resolve, Sem.run_bind, invoke, builtin, hx, hy, hr]
/-- []T{}. -/
theorem xs_buildSlice0 (hT : TabOk P T) {t e size bytes : Nat} (hw : wantedE ops env g = true) (hsl : look t T.sls = some (e, size, bytes)) (hs : St wb D H w)
    (k : ∀ v w', OwnS wb D H e size v 0 [] w' → v ≠ .slice none 0 0 → XS P ops QE n rest (updO env d v) w') :
    XS P ops QE n (⟨d, .buildSlice t 0 #[], ty, pos, aft, g⟩ :: rest) env w := by
  obtain ⟨hu, i, hi, hs1, hs2⟩ := sl_parts (hT.sl hsl)
  refine XS.value hw (w' := { w with heap := w.heap.push (.cells #[] e) }) (v := .slice (some ⟨w.heap.size, 0, none⟩) 0 0) ?_ (k _ _ (.inr ⟨w.heap.size, 0, [], rfl, Nat.le_refl _, by simp, by simp, by simp, hs.alloc _⟩) (by simp))
  simp only [execOp, Sem.run_bind, Instr.buildSlice, run_underlying' hu, Result.andThen_ok, sizeOf, run_typeInfo' hi, Sem.run_pure]
  simp [Instr.fill, newRow, newObj, Sem.run, Sem.run_bind]
  rw [show (Array.range 0).map (fun _ => (default : Value)) = #[] by simp [Array.range]]
/-- What is known now is known of a new base. -/
theorem St.rebase (hs : St wb D H w) : St w D0 (H.map fun e => (e.1, e.2.1, false)) w where
  at_ := fun e he => by
    obtain ⟨e', he', rfl⟩ := List.mem_map.1 he
    exact hs.at_ e' he'
  nd := by rw [List.map_map]; exact hs.nd
  new := fun p hp h => by
    obtain ⟨e, he, rfl⟩ := List.mem_map.1 hp
    obtain ⟨e', he', rfl⟩ := List.mem_map.1 he
    cases h
  os := rfl
  tape := rfl
  output := rfl
  size := Nat.le_refl _
  frame := fun _ _ _ _ => rfl
  ro := by simp [D0]
  ap := by simp [D0]
end
end Go.Proofs.YtjooegonmdmajaaX
