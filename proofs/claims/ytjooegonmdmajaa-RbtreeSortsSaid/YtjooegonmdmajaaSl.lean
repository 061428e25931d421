/- The calculus: append as a step from world to world. Nothing of the program stands here. -/
import Derived.Test.YtjooegonmdmajaaW
import Derived.Test.YtjooegonmdmajaaRbH
set_option linter.unusedVariables false
set_option linter.unusedSimpArgs false
namespace Go.Proofs.YtjooegonmdmajaaX
open Go Go.RowKit
/-- A slice that may be appended to: nil, or the first cells of a row; G its block. -/
def SlV (w : World) (e k : Nat) (v : Value) (n : Nat) (xs : List Value) (G : List Nat) : Prop :=
  (v = .slice none 0 0 ∧ n = 0 ∧ xs = [] ∧ G = []) ∨
  ∃ (g cap : Nat) (cur : List Value), v = .slice (some ⟨g, 0, none⟩) n cap ∧ G = [g] ∧ n ≤ cap ∧ cur.length = cap * k ∧ xs.length = n * k ∧ cur.take (n * k) = xs ∧ w.heap[g]? = some (.cells cur.toArray e (0, 0))
section
variable {P : Program} {ops : Array Oper} {QE : Exit → Env → World → Prop} {n : Nat} {rest : List Oper} {env : Env} {w wb : World} {D : Ctx} {H : List Ent} {T : Tab}
  {d : Option Nat} {ty : Nat} {pos : String} {aft : Array Edge} {g : Option (Nat × Bool)}
theorem append_w {t e size bytes : Nat} (hu : P.underlying t = some (.slice e)) {i : TypeInfo} (hi : P.info? e = some i) (hs1 : i.size = size) (hs2 : i.bytes = bytes) {z : Value} (hz : i.zero = some z) (hzc : z.cells.size = size)
    {v : Value} {k : Nat} {xs news : List Value} {a : Addr} {c m : Nat} {G : List Nat} (hO : SlV w e size v k xs G) (hl : news.length = c * size) (hc0 : 0 < c) (hcs : ∀ (j : Nat) u, news[j]? = some u → w.cell? (a.add j) = some u) (h1 : ∀ u ∈ news, u.oneCell' = true)
    (hk : (k + c) * bytes ≤ 140737488355328) (hk' : k + c ≤ 9223372036854775807) :
    ∃ v' w', (Builtin.append_ #[t, t] ty #[v, .slice (some a) c m]).run P w = .ok v' w' ∧ (∃ G', SlV w' e size v' (k + c) (xs ++ news) G' ∧ ∀ i ∈ G', i ∈ G ∨ w.heap.size ≤ i) ∧ Only G w w' := by
  subst hs1 hs2
  have hcb : c * i.bytes ≤ 281474976710656 := by
    have := Nat.mul_le_mul_right i.bytes (show c ≤ k + c by omega)
    omega
  rcases hO with ⟨rfl, rfl, rfl, rfl⟩ | ⟨g, cap, cur, rfl, rfl, hc, hcl, hxl, htk, hg⟩
  · have hr := run_append_nil (P := P) w t ty e i z hu hi hz a c m news hl hcs hc0 (by omega) hcb
    have hs := (St.nil w).drew'.alloc (.cells (news.toArray ++ Builtin.zeroCells z.cells (grownCap w c 0 e - c)) e)
    refine ⟨_, _, hr, ⟨[w.heap.size], .inr ⟨w.heap.size, grownCap w c 0 e, (news.toArray ++ Builtin.zeroCells z.cells (grownCap w c 0 e - c)).toList, by rw [Nat.zero_add], rfl, by rw [Nat.zero_add]; exact grownCap_ge w c 0 e, ?_, ?_, ?_, hs.get At.head⟩, by simp⟩, hs.only0 rfl⟩
    · have := grownCap_ge w c 0 e
      simp only [Array.toList_append, List.length_append, zero_list, hzc, hl]
      rw [← Nat.add_mul]; congr 1; omega
    · rw [Nat.zero_add, List.nil_append, hl]
    · rw [List.nil_append, Nat.zero_add, Array.toList_append, List.take_append_of_le_length (by simp [hl])]
      exact List.take_of_length_le (by simp [hl])
  · have hs0 := (St.nil w).track hg (by simp)
    by_cases hroom : k + c ≤ cap
    · have hfit : k * i.size + news.length ≤ cur.toArray.size := by
        rw [hl, List.size_toArray, hcl, ← Nat.add_mul]; exact Nat.mul_le_mul_right _ hroom
      have hr := run_append_room (P := P) w t ty e i hu hi g k cap cur.toArray hg a c m news hl hcs h1 hroom hfit
      simp only [List.size_toArray] at hfit
      have hs := hs0.row At.head (cur.take (k * i.size) ++ news ++ cur.drop (k * i.size + news.length)).toArray
      refine ⟨_, _, hr, ⟨[g], .inr ⟨g, cap, (cur.take (k * i.size) ++ news ++ cur.drop (k * i.size + news.length)), rfl, rfl, hroom, ?_, ?_, ?_, hs.get At.head⟩, by simp⟩, hs.onlyF [g] (by simp) (by simp [D0])⟩
      · simp only [List.length_append, List.length_take, List.length_drop]
        omega
      · rw [List.length_append, hxl, hl, Nat.add_mul]
      · rw [List.append_assoc, ← List.append_assoc, htk, List.take_append_of_le_length (by rw [List.length_append, hxl, hl, Nat.add_mul]; exact Nat.le_refl _)]
        exact List.take_of_length_le (by rw [List.length_append, hxl, hl, Nat.add_mul]; exact Nat.le_refl _)
    · have hold : ∀ (j : Nat) u, xs[j]? = some u → w.cell? ((⟨g, 0, none⟩ : Addr).add j) = some u := fun j u hj => by
        rw [add_addr]
        rw [← htk, List.getElem?_take] at hj
        split at hj
        · simp [World.cell?, hg, hj]
        · cases hj
      have hr := run_append_grow (P := P) w t ty e i z hu hi hz ⟨g, 0, none⟩ k cap xs hxl hold a c m news hl hcs (by omega) (by omega) (growslice_fits (by omega) hk)
      have hge := grownCap_ge w (k + c) cap e
      have hs := hs0.drew'.alloc (.cells (xs.toArray ++ news.toArray ++ Builtin.zeroCells z.cells (grownCap w (k + c) cap e - (k + c))) e)
      refine ⟨_, _, hr, ⟨[w.heap.size], .inr ⟨w.heap.size, grownCap w (k + c) cap e, (xs.toArray ++ news.toArray ++ Builtin.zeroCells z.cells (grownCap w (k + c) cap e - (k + c))).toList, rfl, rfl, hge, ?_, ?_, ?_, hs.get At.head⟩, by simp⟩, hs.onlyF [g] (by simp) (by simp [D0])⟩
      · simp only [Array.toList_append, List.length_append, zero_list, hzc, hl, hxl]
        rw [← Nat.add_mul, ← Nat.add_mul]; congr 1; omega
      · rw [List.length_append, hxl, hl, Nat.add_mul]
      · rw [Array.toList_append, Array.toList_append, List.take_append_of_le_length (by simp [hxl, hl, Nat.add_mul])]
        exact List.take_of_length_le (by simp [hxl, hl, Nat.add_mul])
theorem xs_appendW (hT : TabOk P T) {t e size bytes : Nat} {zs news : List Value} {x y : Operand} {v : Value} {k c m : Nat} {a : Addr} {xs : List Value} {G : List Nat} (hw : wantedE ops env g = true) (hsl : look t T.sls = some (e, size, bytes)) (hz : look e T.zs = some zs) (hzl : Nat.beq zs.length size = true)
    (hx : ev env x = v) (hy : ev env y = .slice (some a) c m) (hl : news.length = c * size) (hc0 : 0 < c) (hcs : ∀ (j : Nat) u, news[j]? = some u → w.cell? (a.add j) = some u) (h1 : ∀ u ∈ news, u.oneCell' = true) (hO : SlV w e size v k xs G)
    (hk : (k + c) * bytes ≤ 140737488355328) (hk' : k + c ≤ 9223372036854775807) (kk : ∀ v' w', (∃ G', SlV w' e size v' (k + c) (xs ++ news) G' ∧ ∀ i ∈ G', i ∈ G ∨ w.heap.size ≤ i) → Only G w w' → XS P ops QE n rest (updO env d v') w') :
    XS P ops QE n (⟨d, .call { callee := .builtin .append, args := #[x, y], argTypes := #[t, t] }, ty, pos, aft, g⟩ :: rest) env w := by
  obtain ⟨hu, i, hi, hs1, hs2⟩ := sl_parts (hT.sl hsl)
  obtain ⟨i', z, hi', hz', hzc⟩ := z_parts (hT.z hz)
  rw [hi] at hi'; cases hi'
  obtain ⟨v', w', hr, h2, h3⟩ := append_w (P := P) (ty := ty) (m := m) hu hi hs1 hs2 hz' (by rw [hzc]; simpa using Nat.eq_of_beq_eq_true hzl) hO hl hc0 hcs h1 hk hk'
  refine XS.value hw (v := v') (w' := w') ?_ (kk v' w' h2 h3)
  simp [execOp, resolve, Sem.run_bind, invoke, builtin, hx, hy, hr]
end
/-- The shape of a tree alone: its nodes, not what they count. -/
def ShapeAt (w : World) : RB Int → Option Addr → Prop
  | .nil, p => p = none
  | .node l x r c, p => ∃ b av pl pr, p = some ⟨b, 0, none⟩ ∧ w.heap[b]? = some (nodeO x av pl pr c) ∧ ShapeAt w l pl ∧ ShapeAt w r pr
theorem TreeAt.shape {w : World} : ∀ {t : RB Int} {p : Option Addr} {fp : List Nat}, TreeAt w t p fp → ShapeAt w t p
  | .nil, _, _, ⟨h, _⟩ => h
  | .node l x r c, _, _, ⟨b, av, pl, pr, fl, fr, h1, h2, h3, h4, h5, h6⟩ => ⟨b, av, pl, pr, h1, h3, h5.shape, h6.shape⟩
/-- No node lies among these blocks. -/
def NoNode (w : World) (F : List Nat) : Prop := ∀ b ∈ F, ∀ cs fz, w.heap[b]? ≠ some (.cells cs 84 fz)
theorem ShapeAt.keep {w w' : World} {F : List Nat} (ho : Only F w w') (hF : NoNode w F) : ∀ {t : RB Int} {p : Option Addr}, ShapeAt w t p → ShapeAt w' t p
  | .nil, _, h => h
  | .node l x r c, _, ⟨b, av, pl, pr, h1, h3, h5, h6⟩ => ⟨b, av, pl, pr, h1, ho.block h3 (fun hm => hF b hm _ _ h3), ShapeAt.keep ho hF h5, ShapeAt.keep ho hF h6⟩
theorem SlV.noNode {w : World} {v : Value} {n : Nat} {xs : List Value} {G : List Nat} (h : SlV w 3 1 v n xs G) : NoNode w G := by
  rcases h with ⟨_, _, _, rfl⟩ | ⟨g, cap, cur, _, rfl, _, _, _, _, hg⟩
  · intro b hb; cases hb
  · intro b hb cs fz e
    obtain rfl := List.mem_singleton.1 hb
    rw [hg] at e; cases e
theorem SlV.lt {w : World} {e k n : Nat} {v : Value} {xs : List Value} {G : List Nat} (h : SlV w e k v n xs G) : ∀ b ∈ G, b < w.heap.size := by
  rcases h with ⟨_, _, _, rfl⟩ | ⟨g, cap, cur, _, rfl, _, _, _, _, hg⟩
  · intro b hb; cases hb
  · intro b hb
    obtain rfl := List.mem_singleton.1 hb
    exact lt_of_block hg
theorem SlV.keep {w w' : World} {e k n : Nat} {v : Value} {xs : List Value} {G F : List Nat} (h : SlV w e k v n xs G) (ho : Only F w w') (hd : ∀ b ∈ G, b ∉ F) : SlV w' e k v n xs G := by
  rcases h with ⟨h1, h2, h3, h4⟩ | ⟨g, cap, cur, h1, rfl, h3, h4, h5, h6, hg⟩
  · exact .inl ⟨h1, h2, h3, h4⟩
  · exact .inr ⟨g, cap, cur, h1, rfl, h3, h4, h5, h6, ho.block hg (hd g List.mem_cons_self)⟩
theorem SlV.dat {w : World} {v : Value} {xs : List Int} {G : List Nat} (h : SlV w 3 1 v xs.length (ints xs) G) : DAt w v xs := by
  rcases h with ⟨rfl, h2, h3, h4⟩ | ⟨g, cap, cur, rfl, rfl, h3, h4, h5, h6, hg⟩
  · obtain rfl := List.length_eq_zero_iff.1 h2
    exact ⟨none, 0, rfl, fun h => absurd rfl h⟩
  · refine ⟨_, cap, rfl, fun _ => ⟨g, 0, cur, (0, 0), rfl, h3, hg, fun i d hi => ?_⟩⟩
    have h7 : (ints xs)[i]? = some (.int .i64 d) := by simp [ints, hi]
    rw [← h6, List.getElem?_take] at h7
    rw [Nat.zero_add]
    split at h7
    · exact h7
    · cases h7
end Go.Proofs.YtjooegonmdmajaaX
