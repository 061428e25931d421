/- A part of the proof: what its functions compute. -/
import Derived.Test.YtdkmhjiojealoaaGreatDoorA1
import Derived.Ground.NamesProg
import Derived.Shelf.LaysM
import Derived.Shelf.Strconv.Itoa1
import Derived.Shelf.Strconv.Itoa2
import Derived.Shelf.SlIterI.Nil
import Derived.Shelf.SortM.Plain
import Derived.Shelf.SortM.SortNone
import Derived.Ground.GgzProg
import Derived.Ground.SlgmProg
import Derived.Test.YtdkmhjiojealoaaGreatDoorProg
import Derived.Laws.Externs
import Derived.Test.YtdkmhjiojealoaaGreatDoorRows
import Derived.WalkKit
import Derived.ProofKit
import Derived.OpenShut
import Derived.ShutString
import Derived.ChangeOld
import Derived.Below
import Derived.SizedLaws
import Derived.Lib.SmallJoins
set_option linter.unusedVariables false
set_option linter.unusedSimpArgs false
set_option maxRecDepth 100000
namespace Go.Proofs
open Go.Shelf
def Tryz.laysSmall_ren : Go.Shelf.Ren := ⟨fun | 283 => 180 | n => n, fun | 3 => 3 | 9 => 9 | 4 => 4 | n => n, fun | n => n⟩
theorem Tryz.laysSmall : Go.Proofs.Lays.n283 Tryz.prog Tryz.laysSmall_ren := {
  mixed := by kernel_rfl
  f283 := Tryz.func180.trans (congrArg some (by kernel_rfl))
  t3 := Tryz.underlying3
  a3 := Tryz.isAgg3
  z3 := Tryz.sizeOf3
  v3 := Tryz.zeroValue3
  t4 := Tryz.underlying4
  a4 := Tryz.isAgg4
  z4 := Tryz.sizeOf4
  v4 := Tryz.zeroValue4
  t9 := Tryz.underlying9
  a9 := Tryz.isAgg9
  z9 := Tryz.sizeOf9
  v9 := Tryz.zeroValue9 }
def Tryz.laysDigits_ren : Go.Shelf.Ren := ⟨fun | 284 => 181 | 129 => 120 | 317 => 190 | 318 => 191 | n => n, fun | 53 => 22 | 3 => 3 | 212 => 214 | 0 => 0 | 4 => 4 | 46 => 157 | 5 => 5 | 9 => 9 | n => n, fun | 17 => 2 | n => n⟩
theorem Tryz.laysDigits : Go.Proofs.LaysM.n284 Tryz.prog Tryz.laysDigits_ren := {
  mixed := by kernel_rfl
  f129 := Tryz.func120.trans (congrArg some (by kernel_rfl))
  f284 := Tryz.func181.trans (congrArg some (by kernel_rfl))
  f317 := Tryz.func190.trans (congrArg some (by kernel_rfl))
  f318 := Tryz.func191.trans (congrArg some (by kernel_rfl))
  t0 := Tryz.underlying0
  a0 := Tryz.isAgg0
  z0 := Tryz.sizeOf0
  v0 := Tryz.zeroValue0
  t3 := Tryz.underlying3
  a3 := Tryz.isAgg3
  z3 := Tryz.sizeOf3
  v3 := Tryz.zeroValue3
  t4 := Tryz.underlying4
  a4 := Tryz.isAgg4
  z4 := Tryz.sizeOf4
  v4 := Tryz.zeroValue4
  t5 := Tryz.underlying5
  a5 := Tryz.isAgg5
  z5 := Tryz.sizeOf5
  v5 := Tryz.zeroValue5
  t9 := Tryz.underlying9
  a9 := Tryz.isAgg9
  z9 := Tryz.sizeOf9
  v9 := Tryz.zeroValue9
  t46 := Tryz.underlying157
  a46 := Tryz.isAgg157
  z46 := Tryz.sizeOf157
  v46 := Tryz.zeroValue157
  t53 := Tryz.underlying22
  a53 := Tryz.isAgg22
  z53 := Tryz.sizeOf22
  v53 := Tryz.zeroValue22
  t212 := Tryz.underlying214
  a212 := Tryz.isAgg214
  z212 := Tryz.sizeOf214
  v212 := Tryz.zeroValue214
  g17 := by kernel_rfl
  i0 := by kernel_rfl
  i3 := by kernel_rfl
  i4 := by kernel_rfl
  i5 := by kernel_rfl
  i9 := by kernel_rfl
  i46 := by kernel_rfl
  i53 := by kernel_rfl
  i212 := by kernel_rfl
  m17 := by kernel_rfl }
def Tryz.laysBase_ren : Go.Shelf.Ren := ⟨fun | 285 => 182 | n => n, fun | 37 => 205 | 53 => 22 | 3 => 3 | 4 => 4 | 51 => 28 | 9 => 9 | 5 => 5 | 0 => 0 | n => n, fun | n => n⟩
theorem Tryz.laysBase : Go.Proofs.Lays.n285 Tryz.prog Tryz.laysBase_ren := {
  mixed := by kernel_rfl
  f285 := Tryz.func182.trans (congrArg some (by kernel_rfl))
  t0 := Tryz.underlying0
  a0 := Tryz.isAgg0
  z0 := Tryz.sizeOf0
  v0 := Tryz.zeroValue0
  t3 := Tryz.underlying3
  a3 := Tryz.isAgg3
  z3 := Tryz.sizeOf3
  v3 := Tryz.zeroValue3
  t4 := Tryz.underlying4
  a4 := Tryz.isAgg4
  z4 := Tryz.sizeOf4
  v4 := Tryz.zeroValue4
  t5 := Tryz.underlying5
  a5 := Tryz.isAgg5
  z5 := Tryz.sizeOf5
  v5 := Tryz.zeroValue5
  t9 := Tryz.underlying9
  a9 := Tryz.isAgg9
  z9 := Tryz.sizeOf9
  v9 := Tryz.zeroValue9
  t37 := Tryz.underlying205
  a37 := Tryz.isAgg205
  z37 := Tryz.sizeOf205
  v37 := Tryz.zeroValue205
  t51 := Tryz.underlying28
  a51 := Tryz.isAgg28
  z51 := Tryz.sizeOf28
  v51 := Tryz.zeroValue28
  t53 := Tryz.underlying22
  a53 := Tryz.isAgg22
  z53 := Tryz.sizeOf22
  v53 := Tryz.zeroValue22 }
def Tryz.keysA_ren : Go.Shelf.Ren := ⟨fun | 7 => 57 | 10 => 90 | n => n, fun | 23 => 45 | 26 => 3 | 3 => 34 | 28 => 105 | 0 => 0 | 27 => 104 | 33 => 141 | 4 => 4 | n => n, fun | n => n⟩
theorem Tryz.keysA : Go.Proofs.SlLaysZI.n7 Tryz.prog Tryz.keysA_ren := {
  mixed := by kernel_rfl
  f7 := ⟨Tryz.f57.name, by decide, Tryz.func57.trans (congrArg some (by kernel_rfl))⟩
  f10 := ⟨Tryz.f90.name, by decide, Tryz.func90.trans (congrArg some (by kernel_rfl))⟩
  t0 := Tryz.underlying0
  a0 := Tryz.isAgg0
  z0 := Tryz.sizeOf0
  v0 := Tryz.zeroValue0
  t4 := Tryz.underlying4
  a4 := Tryz.isAgg4
  z4 := Tryz.sizeOf4
  v4 := Tryz.zeroValue4
  t23 := Tryz.underlying45
  a23 := Tryz.isAgg45
  z23 := Tryz.sizeOf45
  v23 := Tryz.zeroValue45
  t26 := Tryz.underlying3
  a26 := Tryz.isAgg3
  z26 := Tryz.sizeOf3
  v26 := Tryz.zeroValue3
  t27 := Tryz.underlying104
  a27 := Tryz.isAgg104
  z27 := Tryz.sizeOf104
  v27 := Tryz.zeroValue104
  t28 := Tryz.underlying105
  a28 := Tryz.isAgg105
  z28 := Tryz.sizeOf105
  v28 := Tryz.zeroValue105
  t33 := Tryz.underlying141
  a33 := Tryz.isAgg141
  z33 := Tryz.sizeOf141
  v33 := Tryz.zeroValue141 }
def Tryz.sortedA_ren : Go.Shelf.Ren := ⟨fun | 6 => 56 | 8 => 88 | 9 => 89 | 11 => 113 | 13 => 115 | 12 => 114 | 23 => 137 | 24 => 120 | 14 => 128 | 15 => 129 | 16 => 130 | 17 => 131 | 18 => 132 | 19 => 133 | 20 => 134 | 21 => 135 | 22 => 136 | 25 => 142 | 26 => 143 | 27 => 144 | 28 => 145 | 29 => 146 | 30 => 147 | 31 => 150 | n => n, fun | 26 => 3 | 28 => 105 | 24 => 102 | 0 => 0 | 3 => 3 | 37 => 157 | 48 => 28 | 50 => 22 | 4 => 4 | 40 => 173 | 39 => 172 | 45 => 100 | 5 => 5 | 9 => 9 | 51 => 181 | 55 => 185 | 57 => 187 | 58 => 188 | 33 => 141 | n => n, fun | n => n⟩
theorem Tryz.sortedA : Go.Proofs.SlLaysZI.n6 Tryz.prog Tryz.sortedA_ren := {
  mixed := by kernel_rfl
  f6 := ⟨Tryz.f56.name, by decide, Tryz.func56.trans (congrArg some (by kernel_rfl))⟩
  f8 := ⟨Tryz.f88.name, by decide, Tryz.func88.trans (congrArg some (by kernel_rfl))⟩
  f11 := ⟨Tryz.f113.name, by decide, Tryz.func113.trans (congrArg some (by kernel_rfl))⟩
  t0 := Tryz.underlying0
  a0 := Tryz.isAgg0
  z0 := Tryz.sizeOf0
  v0 := Tryz.zeroValue0
  t24 := Tryz.underlying102
  a24 := Tryz.isAgg102
  z24 := Tryz.sizeOf102
  v24 := Tryz.zeroValue102
  t26 := Tryz.underlying3
  a26 := Tryz.isAgg3
  z26 := Tryz.sizeOf3
  v26 := Tryz.zeroValue3
  t28 := Tryz.underlying105
  a28 := Tryz.isAgg105
  z28 := Tryz.sizeOf105
  v28 := Tryz.zeroValue105
  i26 := by kernel_rfl }
def Tryz.sortA_ren : Go.Shelf.Ren := ⟨fun | 5 => 89 | 8 => 115 | 7 => 114 | 19 => 137 | 20 => 120 | 10 => 128 | 11 => 129 | 12 => 130 | 13 => 131 | 14 => 132 | 15 => 133 | 16 => 134 | 17 => 135 | 18 => 136 | 30 => 142 | 31 => 143 | 32 => 144 | 33 => 145 | 34 => 146 | 35 => 147 | 40 => 150 | n => n, fun | 23 => 102 | 25 => 3 | 3 => 3 | 32 => 157 | 22 => 102 | 0 => 0 | 44 => 28 | 46 => 22 | 4 => 4 | 36 => 173 | 35 => 172 | 41 => 100 | 5 => 5 | 9 => 9 | 53 => 181 | 57 => 185 | 63 => 187 | 64 => 188 | n => n, fun | n => n⟩
theorem Tryz.sortA : Go.Proofs.SlLaysM.n5 Tryz.prog Tryz.sortA_ren := {
  mixed := by kernel_rfl
  f5 := ⟨Tryz.f89.name, by decide, Tryz.func89.trans (congrArg some (by kernel_rfl))⟩
  f7 := ⟨Tryz.f114.name, by decide, Tryz.func114.trans (congrArg some (by kernel_rfl))⟩
  f8 := Tryz.func115.trans (congrArg some (by kernel_rfl))
  f10 := ⟨Tryz.f128.name, by decide, Tryz.func128.trans (congrArg some (by kernel_rfl))⟩
  f11 := ⟨Tryz.f129.name, by decide, Tryz.func129.trans (congrArg some (by kernel_rfl))⟩
  f12 := ⟨Tryz.f130.name, by decide, Tryz.func130.trans (congrArg some (by kernel_rfl))⟩
  f13 := ⟨Tryz.f131.name, by decide, Tryz.func131.trans (congrArg some (by kernel_rfl))⟩
  f14 := ⟨Tryz.f132.name, by decide, Tryz.func132.trans (congrArg some (by kernel_rfl))⟩
  f15 := ⟨Tryz.f133.name, by decide, Tryz.func133.trans (congrArg some (by kernel_rfl))⟩
  f16 := ⟨Tryz.f134.name, by decide, Tryz.func134.trans (congrArg some (by kernel_rfl))⟩
  f17 := ⟨Tryz.f135.name, by decide, Tryz.func135.trans (congrArg some (by kernel_rfl))⟩
  f18 := ⟨Tryz.f136.name, by decide, Tryz.func136.trans (congrArg some (by kernel_rfl))⟩
  f19 := Tryz.func137.trans (congrArg some (by kernel_rfl))
  f20 := Tryz.func120.trans (congrArg some (by kernel_rfl))
  f30 := ⟨Tryz.f142.name, by decide, Tryz.func142.trans (congrArg some (by kernel_rfl))⟩
  f31 := Tryz.func143.trans (congrArg some (by kernel_rfl))
  f32 := Tryz.func144.trans (congrArg some (by kernel_rfl))
  f33 := ⟨Tryz.f145.name, by decide, Tryz.func145.trans (congrArg some (by kernel_rfl))⟩
  f34 := ⟨Tryz.f146.name, by decide, Tryz.func146.trans (congrArg some (by kernel_rfl))⟩
  f35 := ⟨Tryz.f147.name, by decide, Tryz.func147.trans (congrArg some (by kernel_rfl))⟩
  f40 := ⟨Tryz.f150.name, by decide, Tryz.func150.trans (congrArg some (by kernel_rfl))⟩
  t0 := Tryz.underlying0
  a0 := Tryz.isAgg0
  z0 := Tryz.sizeOf0
  v0 := Tryz.zeroValue0
  t3 := Tryz.underlying3
  a3 := Tryz.isAgg3
  z3 := Tryz.sizeOf3
  v3 := Tryz.zeroValue3
  t4 := Tryz.underlying4
  a4 := Tryz.isAgg4
  z4 := Tryz.sizeOf4
  v4 := Tryz.zeroValue4
  t5 := Tryz.underlying5
  a5 := Tryz.isAgg5
  z5 := Tryz.sizeOf5
  v5 := Tryz.zeroValue5
  t9 := Tryz.underlying9
  a9 := Tryz.isAgg9
  z9 := Tryz.sizeOf9
  v9 := Tryz.zeroValue9
  t22 := Tryz.underlying102
  a22 := Tryz.isAgg102
  z22 := Tryz.sizeOf102
  v22 := Tryz.zeroValue102
  t23 := Tryz.underlying102
  a23 := Tryz.isAgg102
  z23 := Tryz.sizeOf102
  v23 := Tryz.zeroValue102
  t25 := Tryz.underlying3
  a25 := Tryz.isAgg3
  z25 := Tryz.sizeOf3
  v25 := Tryz.zeroValue3
  t32 := Tryz.underlying157
  a32 := Tryz.isAgg157
  z32 := Tryz.sizeOf157
  v32 := Tryz.zeroValue157
  t35 := Tryz.underlying172
  a35 := Tryz.isAgg172
  z35 := Tryz.sizeOf172
  v35 := Tryz.zeroValue172
  t36 := Tryz.underlying173
  a36 := Tryz.isAgg173
  z36 := Tryz.sizeOf173
  v36 := Tryz.zeroValue173
  t41 := Tryz.underlying100
  a41 := Tryz.isAgg100
  z41 := Tryz.sizeOf100
  v41 := Tryz.zeroValue100
  t44 := Tryz.underlying28
  a44 := Tryz.isAgg28
  z44 := Tryz.sizeOf28
  v44 := Tryz.zeroValue28
  t46 := Tryz.underlying22
  a46 := Tryz.isAgg22
  z46 := Tryz.sizeOf22
  v46 := Tryz.zeroValue22
  t53 := Tryz.underlying181
  a53 := Tryz.isAgg181
  z53 := Tryz.sizeOf181
  v53 := Tryz.zeroValue181
  t57 := Tryz.underlying185
  a57 := Tryz.isAgg185
  z57 := Tryz.sizeOf185
  v57 := Tryz.zeroValue185
  t63 := Tryz.underlying187
  a63 := Tryz.isAgg187
  z63 := Tryz.sizeOf187
  v63 := Tryz.zeroValue187
  t64 := Tryz.underlying188
  a64 := Tryz.isAgg188
  z64 := Tryz.sizeOf188
  v64 := Tryz.zeroValue188 }
end Go.Proofs

namespace Go.Proofs.YtdkmhjiojealoaaGreatDoorX
open Go Go.RowKit
def OwnS (wb : World) (D : Ctx) (H : List Ent) (e k : Nat) (v : Value) (n : Nat) (xs : List Value) (w : World) : Prop :=
  (v = .slice none 0 0 ∧ n = 0 ∧ xs = [] ∧ St wb D H w) ∨
  ∃ (g cap : Nat) (cur : List Value), v = .slice (some ⟨g, 0, none⟩) n cap ∧ n ≤ cap ∧ cur.length = cap * k ∧ xs.length = n * k ∧ cur.take (n * k) = xs ∧ St wb D ((g, .cells cur.toArray e (0, 0), true) :: H) w
section
variable {P : Program} {ops : Array Oper} {QE : Exit → Env → World → Prop} {n : Nat} {rest : List Oper} {env : Env} {w wb : World} {D : Ctx} {H : List Ent} {T : Tab}
  {d : Option Nat} {ty : Nat} {pos : String} {aft : Array Edge} {g : Option (Nat × Bool)}
theorem z_parts {t : Nat} {zs : List Value} (h : zeroOf P t = some zs.toArray) : ∃ i z, P.info? t = some i ∧ i.zero = some z ∧ z.cells = zs.toArray := by
  unfold zeroOf at h
  obtain ⟨i, hi, h⟩ := Option.bind_eq_some_iff.1 h
  obtain ⟨z, hz, hc⟩ := Option.map_eq_some_iff.1 h
  exact ⟨i, z, hi, hz, hc⟩
theorem lit_cells {b : Nat} {news : List Value} {e : TypeId} {w : World} (hb : w.heap[b]? = some (.cells news.toArray e (0, 0))) : ∀ j u, news[j]? = some u → w.cell? ((⟨b, 0, none⟩ : Addr).add j) = some u := fun j u hj => by
  rw [add_addr]; simp [World.cell?, hb, hj]
theorem zero_list (z : Array Value) (n : Nat) : (Builtin.zeroCells z n).toList.length = n * z.size := by simp [Builtin.zeroCells]
theorem append_run {t e size bytes : Nat} {zs : List Value} (hu : P.underlying t = some (.slice e)) {i : TypeInfo} (hi : P.info? e = some i) (hs1 : i.size = size) (hs2 : i.bytes = bytes) {z : Value} (hz : i.zero = some z) (hzc : z.cells.size = size)
    {v : Value} {k : Nat} {xs news : List Value} {b m : Nat} (hO : OwnS wb D ((b, .cells news.toArray e (0, 0), true) :: H) e size v k xs w) (hl : news.length = size) (hsz : 0 < size) (h1 : ∀ u ∈ news, u.oneCell' = true)
    (hk : (k + 1) * bytes ≤ 140737488355328) (hk' : k + 1 ≤ maxLen) :
    ∃ v' w', (Builtin.append_ #[t, t] ty #[v, .slice (some ⟨b, 0, none⟩) 1 m]).run P w = .ok v' w' ∧ OwnS wb D H e size v' (k + 1) (xs ++ news) w' ∧ v' ≠ .slice none 0 0 := by
  subst hs1 hs2
  have hsmall : k + 1 ≤ 9223372036854775807 := by simp only [maxLen] at hk'; omega
  rcases hO with ⟨rfl, rfl, rfl, hs⟩ | ⟨g, cap, cur, rfl, hc, hcl, hxl, htk, hs⟩
  · have hb := hs.get At.head
    have hr := run_append_nil (P := P) w t ty e i z hu hi hz ⟨b, 0, none⟩ 1 m news (by omega) (lit_cells hb) (by omega) (by omega) (by omega)
    refine ⟨_, _, hr, .inr ⟨w.heap.size, grownCap w 1 0 e, (news.toArray ++ Builtin.zeroCells z.cells (grownCap w 1 0 e - 1)).toList, rfl, grownCap_ge w 1 0 e, ?_, ?_, ?_, (hs.drew'.alloc _).swap.forgetNew⟩, by simp⟩
    · have := grownCap_ge w 1 0 e
      simp only [Array.toList_append, List.length_append, zero_list, hzc, hl]
      rw [show grownCap w 1 0 e = (grownCap w 1 0 e - 1) + 1 by omega, Nat.add_mul]
      simp [Nat.add_comm]
    · simp [hl]
    · rw [List.nil_append, Array.toList_append, List.take_append_of_le_length (by simp [hl])]
      exact List.take_of_length_le (by simp [hl])
  · have hb := hs.get (At.tail At.head)
    have hg := hs.get At.head
    by_cases hroom : k + 1 ≤ cap
    · have hfit : k * i.size + news.length ≤ cur.toArray.size := by
        rw [hl, List.size_toArray, hcl, ← Nat.succ_mul]; exact Nat.mul_le_mul_right _ hroom
      have hr := run_append_room (P := P) w t ty e i hu hi g k cap cur.toArray hg ⟨b, 0, none⟩ 1 m news (by omega) (lit_cells hb) h1 hroom hfit
      simp only [List.size_toArray] at hfit
      refine ⟨_, _, hr, .inr ⟨g, cap, (cur.take (k * i.size) ++ news ++ cur.drop (k * i.size + news.length)), rfl, hroom, ?_, ?_, ?_, (hs.row At.head _).swap.forgetNew⟩, by simp⟩
      · simp only [List.length_append, List.length_take, List.length_drop]
        omega
      · rw [List.length_append, hxl, hl, Nat.succ_mul]
      · rw [List.append_assoc, ← List.append_assoc, htk, List.take_append_of_le_length (by rw [List.length_append, hxl, hl, Nat.succ_mul]; exact Nat.le_refl _)]
        exact List.take_of_length_le (by rw [List.length_append, hxl, hl, Nat.succ_mul]; exact Nat.le_refl _)
    · have hold : ∀ j u, xs[j]? = some u → w.cell? ((⟨g, 0, none⟩ : Addr).add j) = some u := fun j u hj => by
        rw [add_addr]
        rw [← htk, List.getElem?_take] at hj
        split at hj
        · simp [World.cell?, hg, hj]
        · cases hj
      have hr := run_append_grow (P := P) w t ty e i z hu hi hz ⟨g, 0, none⟩ k cap xs hxl hold ⟨b, 0, none⟩ 1 m news (by omega) (lit_cells hb) (by omega) (by omega) (growslice_fits (by omega) hk)
      have hge := grownCap_ge w (k + 1) cap e
      refine ⟨_, _, hr, .inr ⟨w.heap.size, grownCap w (k + 1) cap e, (xs.toArray ++ news.toArray ++ Builtin.zeroCells z.cells (grownCap w (k + 1) cap e - (k + 1))).toList, rfl, hge, ?_, ?_, ?_, (hs.drew'.alloc _).swap.forgetNew.swap.forgetNew⟩, by simp⟩
      · simp only [Array.toList_append, List.length_append, zero_list, hzc, hl, hxl]
        rw [← Nat.succ_mul, ← Nat.add_mul]; congr 1; omega
      · rw [List.length_append, hxl, hl, Nat.succ_mul]
      · rw [Array.toList_append, Array.toList_append, List.take_append_of_le_length (by simp [hxl, hl, Nat.succ_mul])]
        exact List.take_of_length_le (by simp [hxl, hl, Nat.succ_mul])
theorem xs_append (hT : TabOk P T) {t e size bytes : Nat} {zs news : List Value} {x y : Operand} {v : Value} {k b m : Nat} {xs : List Value} (hw : wantedE ops env g = true) (hsl : look t T.sls = some (e, size, bytes)) (hz : look e T.zs = some zs) (hzl : Nat.beq zs.length size = true) (hsz : Nat.blt 0 size = true)
    (hx : ev env x = v) (hy : ev env y = .slice (some ⟨b, 0, none⟩) 1 m) (hl : Nat.beq news.length size = true) (h1 : news.all Value.oneCell' = true) (hO : OwnS wb D ((b, .cells news.toArray e (0, 0), true) :: H) e size v k xs w)
    (hk : (k + 1) * bytes ≤ 140737488355328) (hk' : k + 1 ≤ maxLen) (kk : ∀ v' w', OwnS wb D H e size v' (k + 1) (xs ++ news) w' → v' ≠ .slice none 0 0 → XS P ops QE n rest (updO env d v') w') :
    XS P ops QE n (⟨d, .call { callee := .builtin .append, args := #[x, y], argTypes := #[t, t] }, ty, pos, aft, g⟩ :: rest) env w := by
  obtain ⟨hu, i, hi, hs1, hs2⟩ := sl_parts (hT.sl hsl)
  obtain ⟨i', z, hi', hz', hzc⟩ := z_parts (hT.z hz)
  rw [hi] at hi'; cases hi'
  obtain ⟨v', w', hr, h2, h3⟩ := append_run (P := P) (ty := ty) (zs := zs) (m := m) hu hi hs1 hs2 hz' (by rw [hzc]; simpa using Nat.eq_of_beq_eq_true hzl) hO (Nat.eq_of_beq_eq_true hl) (Nat.lt_of_succ_le (Nat.le_of_ble_eq_true hsz)) (List.all_eq_true.1 h1) hk hk'
  refine XS.value hw (v := v') (w' := w') ?_ (kk v' w' h2 h3)
  simp [execOp, resolve, Sem.run_bind, invoke, builtin, hx, hy, hr]
theorem putL_set : ∀ {cs : List Value} {off : Nat} {v : Value}, off < cs.length → PutL cs off [v] (cs.set off v)
  | [], _, _, h => absurd h (Nat.not_lt_zero _)
  | c :: cs, 0, v, _ => PutL.cons PutL.nil
  | c :: cs, off + 1, v, h => PutL.skip (putL_set (Nat.lt_of_succ_lt_succ h))
theorem made_one (z0 : Value) (n : Nat) : madeCells #[z0] (n * 1) = (List.replicate n z0).toArray := by
  apply Array.toList_inj.1
  simp only [madeCells, Array.toList_map, Array.toList_range, Nat.mul_one]
  apply List.ext_getElem
  · simp
  · intro i h1 h2
    simp [Nat.mod_one]
theorem xs_make (hT : TabOk P T) {t e bytes m : Nat} {z0 : Value} {x y : Operand} {kl kc : IntKind} (hw : wantedE ops env g = true) (hsl : look t T.sls = some (e, 1, bytes)) (hz : look e T.zs = some [z0])
    (hx : ev env x = .int kl (m : Nat)) (hy : ev env y = .int kc (m : Nat)) (hb : bytes * m ≤ 281474976710656) (hm : m ≤ 9223372036854775807) (hs : St wb D H w)
    (k : ∀ b w', w'.heap.size = w.heap.size + 1 → St wb D ((b, .cells (List.replicate m z0).toArray e, true) :: H) w' → XS P ops QE n rest (updO env d (.slice (some ⟨b, 0, none⟩) m m)) w') :
    XS P ops QE n (⟨d, .makeSlice t x y, ty, pos, aft, g⟩ :: rest) env w := by
  obtain ⟨hu, i, hi, hs1, hs2⟩ := sl_parts (hT.sl hsl)
  obtain ⟨i', z, hi', hz', hzc⟩ := z_parts (hT.z hz)
  rw [hi] at hi'; cases hi'
  have hr := run_make (P := P) w t e i z hu hi hz' kl kc (m : Nat) (m : Nat) (by omega) (Int.le_refl _) (by rw [hs2, ← Int.natCast_mul]; omega) (by omega)
  rw [hs1, hzc, Int.toNat_natCast, made_one] at hr
  refine XS.value hw (v := .slice (some ⟨w.heap.size, 0, none⟩) m m) (w' := w.alloc (.cells (List.replicate m z0).toArray e)) ?_ (k w.heap.size _ (by simp) (hs.alloc _))
  simp [execOp, hx, hy, Sem.run_bind, hr]
end
theorem r_minI {P : Program} {env : Env} {w : World} {d : Option Nat} {ty : Nat} {pos : String} {aft : Array Edge} {g : Option (Nat × Bool)} {x y : Operand} {ats : Array TypeId} {kk : IntKind} {a b : Int} (hx : ev env x = .int kk a) (hy : ev env y = .int kk b) :
    (execOp (ev env) (⟨d, .call { callee := .builtin .min, args := #[x, y], argTypes := ats }, ty, pos, aft, g⟩ : Oper)).run P w = .ok (.value (.int kk (if b < a then b else a))) w := by
  simp [execOp, resolve, Sem.run_bind, invoke, builtin, Builtin.min_, Builtin.min2, hx, hy]
def fieldT (P : Program) (s f : Nat) : Option (Nat × Nat) := match P.underlying s with
  | some (.struct fs) => (fs[f]?).map fun fd => (fd.offset, fd.type)
  | _ => none
theorem r_fieldV {P : Program} {env : Env} {w : World} {d : Option Nat} {ty : Nat} {pos : String} {aft : Array Edge} {g : Option (Nat × Bool)} {s f k t n : Nat} {x : Operand} {vs : List Value} (h : fieldT P s f = some (k, t)) (ht : tkOf P t = some (true, n)) (hx : ev env x = .agg vs.toArray) {v : Value} (hv : Value.agg (vs.toArray.extract k (k + n)) = v) :
    (execOp (ev env) (⟨d, .field s x f, ty, pos, aft, g⟩ : Oper)).run P w = .ok (.value v) w := by
  subst hv
  unfold fieldT at h
  split at h
  · rename_i fs hu
    obtain ⟨fd, hfd, h⟩ := Option.map_eq_some_iff.1 h
    simp only [Prod.mk.injEq] at h
    obtain ⟨rfl, rfl⟩ := h
    obtain ⟨h1, i, hi, rfl⟩ := tk_agg ht
    simp [execOp, Instr.field, Sem.run_bind, run_underlying' hu, hfd, hx, asAgg, part, h1, sizeOf, run_typeInfo' hi]
  · cases h
end Go.Proofs.YtdkmhjiojealoaaGreatDoorX

namespace Go.Proofs.YtdkmhjiojealoaaGreatDoorX
open Go Go.RowKit
section
variable {ops : Array Oper} {QE : Exit → Env → World → Prop} {n : Nat} {rest : List Oper} {env : Env} {w wb : World} {D : Ctx} {H : List Ent} {E : List Nat} {fuel : Nat} {listed : Array Bool} {d : Option Nat} {op : Op} {ty : Nat} {pos : String} {aft : Array Edge} {g : Option (Nat × Bool)}
theorem vs {v : Value} (hw : wantedE ops env g = true := by exact rfl) (hr : (execOp (ev env) (⟨d, op, ty, pos, aft, g⟩ : Oper)).run Tryz.prog w = .ok (.value v) w := by first | ((with_reducible apply r_move); (conv => lhs; whnf)) | ((with_reducible apply r_assign); (conv => lhs; whnf)) | ((with_reducible apply r_nilCheck); exact rfl) | ((with_reducible apply r_fieldAddr); exact tabOk; exact rfl; exact rfl; (conv => lhs; whnf)) | ((with_reducible apply r_load); exact tabOk; exact rfl; exact rfl; (first | exact hs.hold | exact hH rfl | assumption); (repeat (first | exact At.head | (with_reducible apply At.tail))); exact rfl) | ((with_reducible apply r_loadA); exact tabOk; exact rfl; exact rfl; (first | exact hs.hold | exact hH rfl | assumption); (repeat (first | exact At.head | (with_reducible apply At.tail))); (repeat (first | exact Pick.nil | (apply Pick.cons; exact rfl)))) | ((with_reducible apply r_extract); exact rfl; exact rfl) | ((with_reducible apply r_pick); exact rfl; (conv => lhs; whnf)) | ((with_reducible apply r_bin); exact rfl; exact rfl; exact rfl) | ((with_reducible apply r_shrC); exact rfl; exact rfl; exact shAmt rfl rfl rfl) | ((with_reducible apply r_shlC); exact rfl; exact rfl; exact shAmt rfl rfl rfl) | ((with_reducible apply r_andM); exact rfl; exact rfl; exact rfl; exact rfl; (first | omega | exact (u64_rng _).1); (first | omega | exact (u64_rng _).2)) | ((with_reducible apply r_quoU); exact rfl; exact rfl; (first | omega | exact (u64_rng _).1); (first | omega | exact (u64_rng _).2); omega) | ((with_reducible apply r_quoS); exact rfl; exact rfl; omega; omega; omega) | ((with_reducible apply r_remS); exact rfl; exact rfl; omega; omega) | ((with_reducible apply r_remU); exact rfl; exact rfl; (first | omega | exact (u64_rng _).1); (first | omega | exact (u64_rng _).2); omega) | ((with_reducible apply r_conv); exact tabOk; exact rfl; exact rfl; exact rfl) | ((with_reducible apply r_not); exact rfl) | ((with_reducible apply r_eqB); exact tabOk; exact rfl; exact rfl; exact rfl) | ((with_reducible apply r_neB); exact tabOk; exact rfl; exact rfl; exact rfl) | ((with_reducible apply r_eqNil); exact tabOk; exact rfl; exact rfl; exact rfl) | ((with_reducible apply r_neNil); exact tabOk; exact rfl; exact rfl; exact rfl) | ((with_reducible apply r_lenS); exact tabOk; exact rfl; exact rfl; exact rfl) | ((with_reducible apply r_maxI); exact rfl; exact rfl) | ((with_reducible apply r_minI); exact rfl; exact rfl) | (with_reducible apply r_makeFunc) | ((with_reducible apply r_neg); exact rfl) | ((with_reducible apply r_nilCheckF); exact rfl) | ((with_reducible apply r_eqA); exact tabOk; exact rfl; exact rfl; exact rfl; (repeat (first | exact Zip.nil | ((with_reducible apply Zip.last); exact rfl; exact rfl; exact rfl; exact rfl) | ((with_reducible apply Zip.cons); exact rfl; exact rfl; exact rfl; exact rfl)))) | ((with_reducible apply r_neA); exact tabOk; exact rfl; exact rfl; exact rfl; (repeat (first | exact Zip.nil | ((with_reducible apply Zip.last); exact rfl; exact rfl; exact rfl; exact rfl) | ((with_reducible apply Zip.cons); exact rfl; exact rfl; exact rfl; exact rfl)))) | ((with_reducible apply r_build); exact tabOk; exact rfl; exact rfl; (repeat (first | exact Bld.nil | (apply Bld.one; exact rfl; (conv => lhs; whnf); exact rfl; (repeat (first | exact PutL.nil | apply PutL.skip | apply PutL.cons))) | (apply Bld.agg; exact rfl; exact rfl; exact rfl; (repeat (first | exact PutL.nil | apply PutL.skip | apply PutL.cons)))))))
    (k : XS Tryz.prog ops QE n rest (updO env d v) w) : XS Tryz.prog ops QE n (⟨d, op, ty, pos, aft, g⟩ :: rest) env w := xs_val hw hr k
theorem ps (hw : wantedE ops env g = false := by exact rfl) (k : XS Tryz.prog ops QE n rest (updO env d undef) w) : XS Tryz.prog ops QE n (⟨d, op, ty, pos, aft, g⟩ :: rest) env w := xs_pass hw k
theorem st {t b off : Nat} {x y : Operand} {cs cs' : List Value} {E : TypeId} {nw : Bool} {f : Obj → List Ent} {v : Value} (hs : St wb D H w) (ht : look t tab.tks = some (false, 1) := by exact rfl) (hw : wantedE ops env g = true := by exact rfl)
    (hp : ev env x = .pointer (some ⟨b, off, none⟩) := by exact rfl) (hv : ev env y = v := by (conv => lhs; whnf)) (h1 : v.oneCell' = true := by exact rfl) (hA : At H b (.cells cs.toArray E (0, 0)) nw f := by (repeat (first | exact At.head | (with_reducible apply At.tail)))) (hc : PutL cs off [v] cs' := by (repeat (first | exact PutL.nil | apply PutL.skip | apply PutL.cons)))
    (k : ∀ w', St wb D (f (.cells cs'.toArray E (0, 0))) w' → XS Tryz.prog ops QE n rest (updO env d undef) w') : XS Tryz.prog ops QE n (⟨d, .store t x y, ty, pos, aft, g⟩ :: rest) env w := xs_store tabOk ht hw hp hv h1 hs hA hc k
theorem stA {t b off m : Nat} {x y : Operand} {cs vs cs' : List Value} {E : TypeId} {nw : Bool} {f : Obj → List Ent} (hs : St wb D H w) (ht : look t tab.tks = some (true, m) := by exact rfl) (hw : wantedE ops env g = true := by exact rfl)
    (hp : ev env x = .pointer (some ⟨b, off, none⟩) := by exact rfl) (hv : ev env y = .agg vs.toArray := by exact rfl) (hm : Nat.beq vs.length m = true := by exact rfl) (h1 : vs.all Value.oneCell' = true := by exact rfl) (hA : At H b (.cells cs.toArray E (0, 0)) nw f := by (repeat (first | exact At.head | (with_reducible apply At.tail)))) (hc : PutL cs off vs cs' := by (repeat (first | exact PutL.nil | apply PutL.skip | apply PutL.cons)))
    (k : ∀ w', St wb D (f (.cells cs'.toArray E (0, 0))) w' → XS Tryz.prog ops QE n rest (updO env d undef) w') : XS Tryz.prog ops QE n (⟨d, .store t x y, ty, pos, aft, g⟩ :: rest) env w := xs_storeA tabOk ht hw hp hv hm h1 hs hA hc k
theorem al {t : Nat} {cs : List Value} (hs : St wb D H w) (ht : look t tab.zs = some cs := by exact rfl) (hw : wantedE ops env g = true := by exact rfl)
    (k : ∀ b w', w'.heap.size = w.heap.size + 1 → St wb D ((b, .cells cs.toArray t, true) :: H) w' → XS Tryz.prog ops QE n rest (updO env d (.pointer (some ⟨b, 0, none⟩))) w') : XS Tryz.prog ops QE n (⟨d, .alloc t, ty, pos, aft, g⟩ :: rest) env w := xs_alloc tabOk ht hw hs k
theorem bx {t : Nat} {x : Operand} {cs : List Value} (hs : St wb D H w) (hw : wantedE ops env g = true := by exact rfl) (hx : (ev env x).cells = cs.toArray := by exact rfl)
    (k : ∀ b w', w'.heap.size = w.heap.size + 1 → St wb D ((b, .cells cs.toArray t, true) :: H) w' → XS Tryz.prog ops QE n rest (updO env d (.pointer (some ⟨b, 0, none⟩))) w') : XS Tryz.prog ops QE n (⟨d, .box t x, ty, pos, aft, g⟩ :: rest) env w := xs_box hw hx hs k
theorem bs {t e size bytes len : Nat} {parts : Array (Nat × Operand)} {zs cs : List Value} (hs : St wb D H w) (hw : wantedE ops env g = true := by exact rfl) (hsl : look t tab.sls = some (e, size, bytes) := by exact rfl) (hz : look e tab.zs = some zs := by exact rfl) (hzl : Nat.beq zs.length size = true := by exact rfl) (hsm : Nat.ble (len * size) 16777216 = true := by exact rfl) (hps : Nat.beq (len * size) 0 = false := by exact rfl)
    (hb : Bld env (rowPl len size) (rowZ zs (len * size)) parts.toList cs := by (repeat (first | exact Bld.nil | (apply Bld.one; exact rfl; (conv => lhs; whnf); exact rfl; (repeat (first | exact PutL.nil | apply PutL.skip | apply PutL.cons))) | (apply Bld.agg; exact rfl; exact rfl; exact rfl; (repeat (first | exact PutL.nil | apply PutL.skip | apply PutL.cons))))))
    (k : ∀ b w', w'.heap.size = w.heap.size + 1 → St wb D ((b, .cells cs.toArray e, true) :: H) w' → XS Tryz.prog ops QE n rest (updO env d (.slice (some ⟨b, 0, none⟩) len len)) w') : XS Tryz.prog ops QE n (⟨d, .buildSlice t len parts, ty, pos, aft, g⟩ :: rest) env w := xs_buildSlice tabOk hw hsl hz hzl hsm hps hb hs k
theorem ix {t e size bytes b off m c : Nat} {x y : Operand} {kk : IntKind} {i : Int} (hw : wantedE ops env g = true := by exact rfl) (ht : look t tab.sls = some (e, size, bytes) := by exact rfl) (hx : ev env x = .slice (some ⟨b, off, none⟩) m c := by exact rfl) (hy : ev env y = .int kk i := by exact rfl) (h0 : 0 ≤ i) (h1 : i < (m : Int))
    (k : XS Tryz.prog ops QE n rest (updO env d (.pointer (some ⟨b, off + i.toNat * size, none⟩))) w) : XS Tryz.prog ops QE n (⟨d, .indexAddr t x y, ty, pos, aft, g⟩ :: rest) env w := xs_val hw (r_indexAddr tabOk ht hx hy h0 h1) k
theorem lb {t b off : Nat} {x : Operand} {cs : List Value} {E : TypeId} {fr : Nat × Nat} {nw : Bool} {f : Obj → List Ent} {v : Value} (hw : wantedE ops env g = true := by exact rfl) (ht : look t tab.tks = some (false, 1) := by exact rfl)
    (hp : ev env x = .pointer (some ⟨b, off, none⟩) := by exact rfl) (hH : Hold H w := by first | exact hs.hold | exact hH rfl | assumption) (hA : At H b (.cells cs.toArray E fr) nw f := by (repeat (first | exact At.head | (with_reducible apply At.tail)))) (hc : cs[off]? = some v)
    (k : XS Tryz.prog ops QE n rest (updO env d v) w) : XS Tryz.prog ops QE n (⟨d, .load t x, ty, pos, aft, g⟩ :: rest) env w := xs_val hw (r_load tabOk ht hp hH hA hc) k
theorem lh {t b off : Nat} {x : Operand} {cs : List Value} {E : TypeId} {fr : Nat × Nat} {v : Value} (hb : w.heap[b]? = some (.cells cs.toArray E fr)) (hc : cs[off]? = some v) (hw : wantedE ops env g = true := by exact rfl) (ht : look t tab.tks = some (false, 1) := by exact rfl)
    (hp : ev env x = .pointer (some ⟨b, off, none⟩) := by exact rfl)
    (k : XS Tryz.prog ops QE n rest (updO env d v) w) : XS Tryz.prog ops QE n (⟨d, .load t x, ty, pos, aft, g⟩ :: rest) env w :=
  xs_val hw (by simp [execOp, hp, Instr.loadAt, Instr.sureAddr, Sem.run_bind, run_loadVar_flat (tabOk.tk ht) hb hc]) k
theorem sl {t e size bytes b off m c : Nat} {x : Operand} {lo hi : Option Operand} {l h : Nat} (ht : look t tab.sls = some (e, size, bytes) := by exact rfl) (hw : wantedE ops env g = true := by exact rfl) (hx : ev env x = .slice (some ⟨b, off, none⟩) m c := by exact rfl)
    (hlo : Lo env lo l) (hhi : Hi env hi m h) (h1 : l ≤ h) (h2 : h ≤ c) (h3 : l < c)
    (k : XS Tryz.prog ops QE n rest (updO env d (.slice (some ⟨b, off + l * size, none⟩) (h - l) (c - l))) w) : XS Tryz.prog ops QE n (⟨d, .slice t x lo hi none, ty, pos, aft, g⟩ :: rest) env w :=
  xs_val hw (r_sliceLH tabOk ht hx hlo hhi h1 h2 h3) k
theorem apd {t e size bytes : Nat} {zs news : List Value} {x y : Operand} {v : Value} {k b m : Nat} {xs : List Value} (hO : OwnS wb D ((b, .cells news.toArray e (0, 0), true) :: H) e size v k xs w) (hw : wantedE ops env g = true := by exact rfl) (hsl : look t tab.sls = some (e, size, bytes) := by exact rfl) (hz : look e tab.zs = some zs := by exact rfl) (hzl : Nat.beq zs.length size = true := by exact rfl) (hsz : Nat.blt 0 size = true := by exact rfl)
    (hx : ev env x = v := by exact rfl) (hy : ev env y = .slice (some ⟨b, 0, none⟩) 1 m := by exact rfl) (hl : Nat.beq news.length size = true := by exact rfl) (h1 : news.all Value.oneCell' = true := by exact rfl)
    (hk : (k + 1) * bytes ≤ 140737488355328) (hk' : k + 1 ≤ maxLen) (kk : ∀ v' w', OwnS wb D H e size v' (k + 1) (xs ++ news) w' → v' ≠ .slice none 0 0 → XS Tryz.prog ops QE n rest (updO env d v') w') :
    XS Tryz.prog ops QE n (⟨d, .call { callee := .builtin .append, args := #[x, y], argTypes := #[t, t] }, ty, pos, aft, g⟩ :: rest) env w := xs_append tabOk hw hsl hz hzl hsz hx hy hl h1 hO hk hk' kk
theorem mkS {t e bytes m : Nat} {z0 : Value} {x y : Operand} {kl kc : IntKind} (hs : St wb D H w) (hw : wantedE ops env g = true := by exact rfl) (hsl : look t tab.sls = some (e, 1, bytes) := by exact rfl) (hz : look e tab.zs = some [z0] := by exact rfl)
    (hx : ev env x = .int kl (m : Nat) := by exact rfl) (hy : ev env y = .int kc (m : Nat) := by exact rfl) (hb : bytes * m ≤ 281474976710656) (hm : m ≤ 9223372036854775807)
    (k : ∀ b w', w'.heap.size = w.heap.size + 1 → St wb D ((b, .cells (List.replicate m z0).toArray e, true) :: H) w' → XS Tryz.prog ops QE n rest (updO env d (.slice (some ⟨b, 0, none⟩) m m)) w') :
    XS Tryz.prog ops QE n (⟨d, .makeSlice t x y, ty, pos, aft, g⟩ :: rest) env w := xs_make tabOk hw hsl hz hx hy hb hm hs k
theorem dr (E : List Nat) {id : Nat} {ops : Array Oper} (hs : St wb D H w) (hX : XH ops E QE n := by exact ⟨by kernel_rfl, by kernel_rfl, by kernel_rfl, by (repeat (first | (with_reducible exact nop_ret) | (with_reducible apply nop_then) | (with_reducible apply nop_block) | (with_reducible apply nop_loop) | (with_reducible apply nop_loopS) | (with_reducible apply nop_cutB) | (with_reducible apply nop_cutN)))⟩)
    (k : XH ops E QE n → ∀ w', St wb D H w' → XA Tryz.prog ops E H QE n ops.size (Array.replicate ops.size false) env w') : XC Tryz.prog QE n (.region id ops true) env w := xc_draw E tabOk hs hX k
theorem drB (E : List Nat) (b : Nat) (o : Obj) {id : Nat} {ops : Array Oper} (hs : St wb D H w) (hX : XH ops E QE n := by exact ⟨by kernel_rfl, by kernel_rfl, by kernel_rfl, by (repeat (first | (with_reducible exact nop_ret) | (with_reducible apply nop_then) | (with_reducible apply nop_block) | (with_reducible apply nop_loop) | (with_reducible apply nop_loopS) | (with_reducible apply nop_cutB) | (with_reducible apply nop_cutN)))⟩)
    (k : XH ops E QE n → ∀ w', St wb D H w' → XA Tryz.prog ops E ((b, o, false) :: H) QE n ops.size (Array.replicate ops.size false) env w') : XC Tryz.prog QE n (.region id ops true) env w := xc_drawR E _ tabOk hs hX k
theorem drH (E : List Nat) (HH : List Ent) {id : Nat} {ops : Array Oper} (hs : St wb D H w) (hX : XH ops E QE n := by exact ⟨by kernel_rfl, by kernel_rfl, by kernel_rfl, by (repeat (first | (with_reducible exact nop_ret) | (with_reducible apply nop_then) | (with_reducible apply nop_block) | (with_reducible apply nop_loop) | (with_reducible apply nop_loopS) | (with_reducible apply nop_cutB) | (with_reducible apply nop_cutN)))⟩)
    (k : XH ops E QE n → ∀ w', St wb D H w' → XA Tryz.prog ops E HH QE n ops.size (Array.replicate ops.size false) env w') : XC Tryz.prog QE n (.region id ops true) env w := xc_drawR E HH tabOk hs hX k
theorem tk (i : Nat) {v : Value} (hX : XH ops E QE n) (hi : ops[i]? = some ⟨d, op, ty, pos, aft, g⟩ := by exact rfl) (hc : takeOk ops E listed i = true := by kernel_rfl) (hS : SE E H listed w := by (first | exact se_hold hs.hold | exact se_hold (hold_sim hs.hold rfl) | exact se_hold (hold_sim hs.hold.tail rfl) | exact se_hold (hR hs rfl) | exact se_hold hs.hold.tail | exact se_hold hs.hold.tail.tail | exact se_hold hs.hold.tail.tail.tail | exact se_done rfl)) (hw : wantedE ops env g = true := by exact rfl)
    (hr : ∀ w, (isLoad ⟨d, op, ty, pos, aft, g⟩ = true → Hold H w) → (execOp (ev env) (⟨d, op, ty, pos, aft, g⟩ : Oper)).run Tryz.prog w = .ok (.value v) w := by intro w' hH; (first | ((with_reducible apply r_move); (conv => lhs; whnf)) | ((with_reducible apply r_assign); (conv => lhs; whnf)) | ((with_reducible apply r_nilCheck); exact rfl) | ((with_reducible apply r_fieldAddr); exact tabOk; exact rfl; exact rfl; (conv => lhs; whnf)) | ((with_reducible apply r_load); exact tabOk; exact rfl; exact rfl; (first | exact hs.hold | exact hH rfl | assumption); (repeat (first | exact At.head | (with_reducible apply At.tail))); exact rfl) | ((with_reducible apply r_loadA); exact tabOk; exact rfl; exact rfl; (first | exact hs.hold | exact hH rfl | assumption); (repeat (first | exact At.head | (with_reducible apply At.tail))); (repeat (first | exact Pick.nil | (apply Pick.cons; exact rfl)))) | ((with_reducible apply r_extract); exact rfl; exact rfl) | ((with_reducible apply r_pick); exact rfl; (conv => lhs; whnf)) | ((with_reducible apply r_bin); exact rfl; exact rfl; exact rfl) | ((with_reducible apply r_shrC); exact rfl; exact rfl; exact shAmt rfl rfl rfl) | ((with_reducible apply r_shlC); exact rfl; exact rfl; exact shAmt rfl rfl rfl) | ((with_reducible apply r_andM); exact rfl; exact rfl; exact rfl; exact rfl; (first | omega | exact (u64_rng _).1); (first | omega | exact (u64_rng _).2)) | ((with_reducible apply r_quoU); exact rfl; exact rfl; (first | omega | exact (u64_rng _).1); (first | omega | exact (u64_rng _).2); omega) | ((with_reducible apply r_quoS); exact rfl; exact rfl; omega; omega; omega) | ((with_reducible apply r_remS); exact rfl; exact rfl; omega; omega) | ((with_reducible apply r_remU); exact rfl; exact rfl; (first | omega | exact (u64_rng _).1); (first | omega | exact (u64_rng _).2); omega) | ((with_reducible apply r_conv); exact tabOk; exact rfl; exact rfl; exact rfl) | ((with_reducible apply r_not); exact rfl) | ((with_reducible apply r_eqB); exact tabOk; exact rfl; exact rfl; exact rfl) | ((with_reducible apply r_neB); exact tabOk; exact rfl; exact rfl; exact rfl) | ((with_reducible apply r_eqNil); exact tabOk; exact rfl; exact rfl; exact rfl) | ((with_reducible apply r_neNil); exact tabOk; exact rfl; exact rfl; exact rfl) | ((with_reducible apply r_lenS); exact tabOk; exact rfl; exact rfl; exact rfl) | ((with_reducible apply r_maxI); exact rfl; exact rfl) | ((with_reducible apply r_minI); exact rfl; exact rfl) | (with_reducible apply r_makeFunc) | ((with_reducible apply r_neg); exact rfl) | ((with_reducible apply r_nilCheckF); exact rfl) | ((with_reducible apply r_eqA); exact tabOk; exact rfl; exact rfl; exact rfl; (repeat (first | exact Zip.nil | ((with_reducible apply Zip.last); exact rfl; exact rfl; exact rfl; exact rfl) | ((with_reducible apply Zip.cons); exact rfl; exact rfl; exact rfl; exact rfl)))) | ((with_reducible apply r_neA); exact tabOk; exact rfl; exact rfl; exact rfl; (repeat (first | exact Zip.nil | ((with_reducible apply Zip.last); exact rfl; exact rfl; exact rfl; exact rfl) | ((with_reducible apply Zip.cons); exact rfl; exact rfl; exact rfl; exact rfl)))) | ((with_reducible apply r_build); exact tabOk; exact rfl; exact rfl; (repeat (first | exact Bld.nil | (apply Bld.one; exact rfl; (conv => lhs; whnf); exact rfl; (repeat (first | exact PutL.nil | apply PutL.skip | apply PutL.cons))) | (apply Bld.agg; exact rfl; exact rfl; exact rfl; (repeat (first | exact PutL.nil | apply PutL.skip | apply PutL.cons))))))))
    (k : XA Tryz.prog ops E H QE n fuel (listed.setIfInBounds i true) (updO env d v) w) : XA Tryz.prog ops E H QE n (fuel + 1) listed env w := xa_take hX hi hc hS hw hr k
theorem pt (i : Nat) (hX : XH ops E QE n) (hi : ops[i]? = some ⟨d, op, ty, pos, aft, g⟩ := by exact rfl) (hc : takeOk ops E listed i = true := by kernel_rfl) (hS : SE E H listed w := by (first | exact se_hold hs.hold | exact se_hold (hold_sim hs.hold rfl) | exact se_hold (hold_sim hs.hold.tail rfl) | exact se_hold (hR hs rfl) | exact se_hold hs.hold.tail | exact se_hold hs.hold.tail.tail | exact se_hold hs.hold.tail.tail.tail | exact se_done rfl)) (hw : wantedE ops env g = false := by exact rfl)
    (k : XA Tryz.prog ops E H QE n fuel (listed.setIfInBounds i true) (updO env d undef) w) : XA Tryz.prog ops E H QE n (fuel + 1) listed env w := xa_pass hX hi hc hS hw k
theorem dt (i : Nat) (hX : XH ops E QE n) (hi : ops[i]? = some ⟨d, op, ty, pos, aft, g⟩ := by exact rfl) (hr : Region.ready .any ops listed = [i] := by kernel_rfl)
    (k : XS Tryz.prog ops (doneE Tryz.prog ops E H QE n fuel (listed.setIfInBounds i true)) n [⟨d, op, ty, pos, aft, g⟩] env w) : XA Tryz.prog ops E H QE n (fuel + 1) listed env w := xa_do' i hX hi hr k
theorem dn (hS : SE E H listed w := by (first | exact se_hold hs.hold | exact se_hold (hold_sim hs.hold rfl) | exact se_hold (hold_sim hs.hold.tail rfl) | exact se_hold (hR hs rfl) | exact se_hold hs.hold.tail | exact se_hold hs.hold.tail.tail | exact se_hold hs.hold.tail.tail.tail | exact se_done rfl)) (k : XA Tryz.prog ops E H QE n fuel listed env w) : doneE Tryz.prog ops E H QE n fuel listed .normal env w := done_of hS k
theorem en (hr : Region.ready .any ops listed = [] := by kernel_rfl) (k : QE .normal env w) : XA Tryz.prog ops E H QE n fuel listed env w := xa_done hr k
theorem rt {rs : List ResultVar} {vs : List Value} {Q : Value → World → Prop} (hr : resOk Tryz.prog env w rs vs := by (repeat' (first | exact resOk_nil | apply resOk_cons | ((with_reducible apply res_tmp); (conv => lhs; whnf)) | ((with_reducible apply res_cellA); exact tabOk; exact rfl; exact rfl; exact hs.hold; (repeat (first | exact At.head | (with_reducible apply At.tail))); (repeat (first | exact Pick.nil | (apply Pick.cons; exact rfl)))) | ((with_reducible apply res_cell); exact tabOk; exact rfl; exact rfl; exact hs.hold; (repeat (first | exact At.head | (with_reducible apply At.tail))); exact rfl)))) (hq : Q (packed vs) w) : retE Tryz.prog rs Q .ret env w := ret_end hr hq
theorem rt' {rs : List ResultVar} {vs : List Value} {Q : Value → World → Prop} (hr : resOk Tryz.prog env w rs vs := by (repeat' (first | exact resOk_nil | apply resOk_cons | ((with_reducible apply res_tmp); (conv => lhs; whnf)) | ((with_reducible apply res_cellA); exact tabOk; exact rfl; exact rfl; exact hs.hold; (repeat (first | exact At.head | (with_reducible apply At.tail))); (repeat (first | exact Pick.nil | (apply Pick.cons; exact rfl)))) | ((with_reducible apply res_cell); exact tabOk; exact rfl; exact rfl; exact hs.hold; (repeat (first | exact At.head | (with_reducible apply At.tail))); exact rfl)))) (hq : Q (packed vs) w) : retE Tryz.prog rs Q .normal env w := ret_end' hr hq
end
end Go.Proofs.YtdkmhjiojealoaaGreatDoorX

namespace Go.Proofs.YtdkmhjiojealoaaGreatDoorX
open Go Go.RowKit
attribute [local irreducible] XS XC XA thenE blockE retE loopE loopS cutB cutN doneE SE
/-! ### math/bits -/
theorem wrap_u64 (n : Int) : IntKind.u64.wrap n = n % 18446744073709551616 := by simp [IntKind.wrap, IntKind.signed, IntKind.bits]
theorem wrap_i64 (n : Int) : IntKind.i64.wrap n = (n + 9223372036854775808) % 18446744073709551616 - 9223372036854775808 := by
  simp only [IntKind.wrap, IntKind.signed, IntKind.bits]
  simp
  split <;> omega
theorem add64_ret (a b c : Int) (ha : 0 ≤ a) (hb : 0 ≤ b) (hc0 : 0 ≤ c) (hc : c ≤ 1) (w : World) :
    Ret Tryz.prog 78 #[.int .u64 a, .int .u64 b, .int .u64 c] w fun v w' => v = .tuple #[.int .u64 ((a + b + c) % 18446744073709551616), .int .u64 ((a + b + c) / 18446744073709551616)] ∧ w = w' := by
  refine .inr ⟨_, w, ?_, rfl, rfl⟩
  rw [run_callFunc_extern (fn := Tryz.f78) (by kernel_rfl) (by kernel_rfl) (by kernel_rfl) (by kernel_rfl) (e := add64Entry) (by kernel_rfl), run_add64 a b c ha hb hc0 hc]
  rfl
def wv (x : Int) : Value := .agg #[.int .i64 (x / 18446744073709551616), .int .u64 (x % 18446744073709551616)]
def InW (x : Int) : Prop := -170141183460469231731687303715884105728 ≤ x ∧ x < 170141183460469231731687303715884105728
instance (x : Int) : Decidable (InW x) := by unfold InW; infer_instance
def tellV (x : Int) : Value := if InW x then .tuple #[wv x, .bool true] else .tuple #[wv 0, .bool false]
theorem tell_ok {s hi lo : Int} (h : InW s) (h1 : hi = s / 18446744073709551616) (h2 : lo = s % 18446744073709551616) : packed [Value.agg #[.int .i64 hi, .int .u64 lo], .bool true] = tellV s := by
  unfold tellV wv packed; rw [if_pos h, h1, h2]
theorem tell_no {s : Int} (h : ¬ InW s) : packed [Value.agg #[.int .i64 0, .int .u64 0], .bool false] = tellV s := by
  unfold tellV wv packed; rw [if_neg h]; rfl
theorem wv_ok {s hi lo : Int} (h1 : hi = s / 18446744073709551616) (h2 : lo = s % 18446744073709551616) : packed [Value.agg #[.int .i64 hi, .int .u64 lo]] = wv s := by
  unfold wv packed; rw [h1, h2]
theorem decide_eq {p q : Prop} [Decidable p] [Decidable q] {b : Bool} (h : (decide p == decide q) = b) : (b = true → (p ↔ q)) ∧ (b = false → ¬ (p ↔ q)) := by
  subst h
  by_cases hp : p <;> by_cases hq : q <;> simp [hp, hq]
theorem decide_ne {p q : Prop} [Decidable p] [Decidable q] {b : Bool} (h : (decide p != decide q) = b) : (b = false → (p ↔ q)) ∧ (b = true → ¬ (p ↔ q)) := by
  subst h
  by_cases hp : p <;> by_cases hq : q <;> simp [hp, hq]
set_option maxHeartbeats 400000 in
theorem add_ret (x y : Int) (hx : InW x) (hy : InW y) (w0 : World) : Ret Tryz.prog 101 #[wv x, wv y] w0 fun v w' => v = tellV (x + y) ∧ Only [] w0 w' := by
  obtain ⟨hx1, hx2⟩ := hx
  obtain ⟨hy1, hy2⟩ := hy
  have hs := St.nil w0
  refine ret_of_xc Tryz.func101 (by kernel_rfl) rfl Tryz.ntmps101 rfl rfl rfl ?_
  repeat' (first|refine vs (k:=?_)|(refine al hs (k:=?_);intro b w hz hs)|(refine bx hs (k:=?_);intro b w hz hs)|refine qRg ?_|refine Nx.h ?_|fail)
  (with_reducible apply xs_call); exact rfl; exact rfl; exact add64_ret _ _ _ (by omega) (by omega) (by omega) (by omega) _
  rintro v w' ⟨rfl, rfl⟩
  repeat' (first|refine vs (k:=?_)|refine qRg ?_|refine Nx.h ?_|fail)
  (with_reducible apply xs_call); exact rfl; exact rfl; exact add64_ret _ _ _ (by rw [wrap_u64]; omega) (by rw [wrap_u64]; omega) (by omega) (by omega) _
  rintro v w' ⟨rfl, rfl⟩
  repeat' (first|refine vs (k:=?_)|refine ps (k:=?_)|(refine stA hs (k:=?_);intro w hs)|(refine al hs (k:=?_);intro b w hz hs)|refine qRg ?_|refine Nx.h ?_|refine qCf ?_|((with_reducible apply xs_guard);exact rfl;exact rfl;intro c hc;(fail_if_success have:true=c:=hc);(fail_if_success have:false=c:=hc);cases c)|(refine xc_cond rfl (fun hc=>?_) (fun hc=>?_))|fail)
  all_goals (first | refine rt (hq := ?_) | refine rt' (hq := ?_))
  all_goals refine ⟨?_, hs.only0 rfl⟩
  all_goals simp only [wrap_u64, wrap_i64] at *
  · refine tell_ok ?_ ?_ ?_
    all_goals have hc := (decide_eq hc).2 rfl
    all_goals (try unfold InW)
    all_goals omega
  · refine tell_no ?_
    all_goals have hd := (decide_eq ‹(_ == _) = true›).1 rfl
    all_goals have hc := (decide_ne ‹(_ != _) = true›).2 rfl
    all_goals (try unfold InW)
    all_goals omega
  · refine tell_ok ?_ ?_ ?_
    all_goals have hd := (decide_eq ‹(_ == _) = true›).1 rfl
    all_goals have hc := (decide_ne ‹(_ != _) = false›).1 rfl
    all_goals (try unfold InW)
    all_goals omega
def sub64E : Array Value → Sem Value := fun args => do
  let (x, y, b) ← Extern.MathBitsCarry.three "Sub64" args
  pure (Extern.MathBitsCarry.pair ((x + Extern.MathBitsCarry.m64 - y - b) % Extern.MathBitsCarry.m64) (if x < y + b then 1 else 0))
def bor (x y b : Int) : Int := if x < y + b then 1 else 0
theorem sub64_ret (a b c : Int) (ha : 0 ≤ a) (ha' : a < 18446744073709551616) (hb : 0 ≤ b) (hb' : b < 18446744073709551616) (hc0 : 0 ≤ c) (hc : c ≤ 1) (w : World) :
    Ret Tryz.prog 106 #[.int .u64 a, .int .u64 b, .int .u64 c] w fun v w' => v = .tuple #[.int .u64 ((a - b - c) % 18446744073709551616), .int .u64 (bor a b c)] ∧ w = w' := by
  refine .inr ⟨_, w, ?_, rfl, rfl⟩
  obtain ⟨x, rfl⟩ := Int.eq_ofNat_of_zero_le ha
  obtain ⟨y, rfl⟩ := Int.eq_ofNat_of_zero_le hb
  obtain ⟨z, rfl⟩ := Int.eq_ofNat_of_zero_le hc0
  have hrun : (sub64E #[.int .u64 (x : Int), .int .u64 (y : Int), .int .u64 (z : Int)]).run Tryz.prog w = .ok (.tuple #[.int .u64 (((x + 18446744073709551616 - y - z) % 18446744073709551616 : Nat) : Int), .int .u64 ((if x < y + z then 1 else 0 : Nat) : Int)]) w := by
    have : z = 0 ∨ z = 1 := by omega
    rcases this with rfl | rfl <;> rfl
  rw [run_callFunc_extern (fn := Tryz.f106) (by kernel_rfl) (by kernel_rfl) (by kernel_rfl) (by kernel_rfl) (e := sub64E) (by kernel_rfl), hrun]
  have e1 : (((x + 18446744073709551616 - y - z) % 18446744073709551616 : Nat) : Int) = ((x : Int) - y - z) % 18446744073709551616 := by omega
  have e2 : ((if x < y + z then 1 else 0 : Nat) : Int) = bor x y z := by unfold bor; split <;> split <;> omega
  rw [e1, e2]
  rfl
theorem of_ret (x : Int) (h1 : -9223372036854775808 ≤ x) (h2 : x < 9223372036854775808) (w0 : World) : Ret Tryz.prog 80 #[.int .i64 x] w0 fun v w' => v = wv x ∧ Only [] w0 w' := by
  have hs := St.nil w0
  refine ret_of_xc Tryz.func80 (by kernel_rfl) rfl Tryz.ntmps80 rfl rfl rfl ?_
  repeat' (first|refine vs (k:=?_)|(refine st hs (k:=?_);intro w hs)|(refine stA hs (k:=?_);intro w hs)|(refine al hs (k:=?_);intro b w hz hs)|refine qRg ?_|refine Nx.h ?_|(refine xc_if rfl (fun hc=>?_) (fun hc=>?_))|fail)
  all_goals (first | refine rt (hq := ?_) | refine rt' (hq := ?_))
  all_goals refine ⟨?_, hs.only0 rfl⟩
  all_goals simp only [wrap_u64, wrap_i64] at *
  all_goals (refine wv_ok ?_ ?_ <;> omega)
theorem ofU_ret (x : Int) (h1 : 0 ≤ x) (h2 : x < 18446744073709551616) (w0 : World) : Ret Tryz.prog 116 #[.int .u64 x] w0 fun v w' => v = wv x ∧ Only [] w0 w' := by
  have hs := St.nil w0
  refine ret_of_xc Tryz.func116 (by kernel_rfl) rfl Tryz.ntmps116 rfl rfl rfl ?_
  repeat' (first|refine vs (k:=?_)|(refine stA hs (k:=?_);intro w hs)|(refine al hs (k:=?_);intro b w hz hs)|refine qRg ?_|refine Nx.h ?_|fail)
  all_goals (first | refine rt (hq := ?_) | refine rt' (hq := ?_))
  all_goals refine ⟨?_, hs.only0 rfl⟩
  all_goals (refine wv_ok ?_ ?_ <;> omega)
def negW (x : Int) : Int := if x = -170141183460469231731687303715884105728 then x else -x
theorem flip_ret (x : Int) (hx : InW x) (w0 : World) : Ret Tryz.prog 79 #[wv x] w0 fun v w' => v = wv (negW x) ∧ Only [] w0 w' := by
  obtain ⟨hx1, hx2⟩ := hx
  have hs := St.nil w0
  have hb : 0 ≤ bor 0 (x % 18446744073709551616) 0 ∧ bor 0 (x % 18446744073709551616) 0 ≤ 1 := by unfold bor; split <;> omega
  refine ret_of_xc Tryz.func79 (by kernel_rfl) rfl Tryz.ntmps79 rfl rfl rfl ?_
  repeat' (first|refine vs (k:=?_)|(refine al hs (k:=?_);intro b w hz hs)|(refine bx hs (k:=?_);intro b w hz hs)|refine qRg ?_|refine Nx.h ?_|fail)
  (with_reducible apply xs_call); exact rfl; exact rfl; exact sub64_ret _ _ _ (by omega) (by omega) (by omega) (by omega) (by omega) (by omega) _
  rintro v w' ⟨rfl, rfl⟩
  repeat' (first|refine vs (k:=?_)|refine qRg ?_|refine Nx.h ?_|fail)
  (with_reducible apply xs_call); exact rfl; exact rfl; exact sub64_ret _ _ _ (by omega) (by omega) (by rw [wrap_u64]; omega) (by rw [wrap_u64]; omega) (by omega) (by omega) _
  rintro v w' ⟨rfl, rfl⟩
  repeat' (first|refine vs (k:=?_)|(refine stA hs (k:=?_);intro w hs)|refine qRg ?_|refine Nx.h ?_|fail)
  all_goals (first | refine rt (hq := ?_) | refine rt' (hq := ?_))
  all_goals refine ⟨?_, hs.only0 rfl⟩
  all_goals simp only [wrap_u64, wrap_i64, bor, negW] at *
  all_goals (refine wv_ok ?_ ?_ <;> (try split) <;> (try split) <;> omega)
theorem two_ok {a b c d : Int} (h1 : a = c) (h2 : b = d) : packed [Value.int .u64 a, .int .u64 b] = .tuple #[.int .u64 c, .int .u64 d] := by rw [h1, h2]; rfl
def sizeV (x : Int) : Value := .tuple #[.int .u64 ((if x < 0 then -x else x) / 18446744073709551616), .int .u64 ((if x < 0 then -x else x) % 18446744073709551616)]
theorem size_ret (x : Int) (hx : InW x) (w0 : World) : Ret Tryz.prog 76 #[wv x] w0 fun v w' => v = sizeV x ∧ Only [] w0 w' := by
  have hx' := hx
  obtain ⟨hx1, hx2⟩ := hx
  have hs := St.nil w0
  refine ret_of_xc Tryz.func76 (by kernel_rfl) rfl Tryz.ntmps76 rfl rfl rfl ?_
  repeat' (first|refine vs (k:=?_)|(refine bx hs (k:=?_);intro b w hz hs)|refine qRg ?_|refine Nx.h ?_|(refine xc_if rfl (fun hc=>?_) (fun hc=>?_))|fail)
  · (with_reducible apply xs_call); exact rfl; exact rfl; exact flip_ret x hx' _
    rintro v w' ⟨rfl, ho⟩
    replace hs := hs.call0 ho
    repeat' (first|(refine stA hs (k:=?_);intro w hs)|refine Nx.h ?_|fail)
    refine dr [] hs (k := ?_); intro hX w hs
    refine tk 0 hX (k := ?_)
    refine tk 1 hX (k := ?_)
    refine tk 2 hX (k := ?_)
    refine tk 3 hX (k := ?_)
    refine tk 4 hX (k := ?_)
    refine tk 5 hX (k := ?_)
    refine tk 6 hX (k := ?_)
    refine en (k := ?_)
    repeat' (first|refine Nx.h ?_|fail)
    first | refine rt (hq := ?_) | refine rt' (hq := ?_)
    refine ⟨?_, hs.only0 rfl⟩
    simp only [wrap_u64, negW] at *
    refine two_ok ?_ ?_ <;> (try split) <;> (try split) <;> omega
  · refine dr [] hs (k := ?_); intro hX w hs
    refine tk 0 hX (k := ?_)
    refine tk 1 hX (k := ?_)
    refine tk 2 hX (k := ?_)
    refine tk 3 hX (k := ?_)
    refine tk 4 hX (k := ?_)
    refine tk 5 hX (k := ?_)
    refine tk 6 hX (k := ?_)
    refine en (k := ?_)
    repeat' (first|refine Nx.h ?_|fail)
    first | refine rt (hq := ?_) | refine rt' (hq := ?_)
    refine ⟨?_, hs.only0 rfl⟩
    simp only [wrap_u64] at *
    refine two_ok ?_ ?_ <;> (try split) <;> omega
end Go.Proofs.YtdkmhjiojealoaaGreatDoorX

namespace Go.Proofs.YtdkmhjiojealoaaGreatDoorX
open Go Go.RowKit
attribute [local irreducible] XS XC XA thenE blockE retE loopE loopS cutB cutN doneE SE
theorem isNaNS_ret (a : Int) (w0 : World) : Ret Tryz.prog 92 #[.int .i64 a] w0 fun v w' => v = .bool false ∧ Only [] w0 w' := by
  have hs := St.nil w0
  refine ret_of_xc Tryz.func92 (by kernel_rfl) rfl Tryz.ntmps92 rfl rfl rfl ?_
  repeat' (first|refine vs (k:=?_)|refine qRg ?_|refine Nx.h ?_|fail)
  first | refine rt (hq := ?_) | refine rt' (hq := ?_)
  exact ⟨by simp [packed], hs.only0 rfl⟩
theorem isNaNU_ret (a : Int) (w0 : World) : Ret Tryz.prog 93 #[.int .u64 a] w0 fun v w' => v = .bool false ∧ Only [] w0 w' := by
  have hs := St.nil w0
  refine ret_of_xc Tryz.func93 (by kernel_rfl) rfl Tryz.ntmps93 rfl rfl rfl ?_
  repeat' (first|refine vs (k:=?_)|refine qRg ?_|refine Nx.h ?_|fail)
  first | refine rt (hq := ?_) | refine rt' (hq := ?_)
  exact ⟨by simp [packed], hs.only0 rfl⟩
def cmpI (a b : Int) : Int := if a < b then -1 else if b < a then 1 else 0
theorem compareS_ret (a b : Int) (w0 : World) : Ret Tryz.prog 61 #[.int .i64 a, .int .i64 b] w0 fun v w' => v = .int .i64 (cmpI a b) ∧ Only [] w0 w' := by
  have hs := St.nil w0
  refine ret_of_xc Tryz.func61 (by kernel_rfl) rfl Tryz.ntmps61 rfl rfl rfl ?_
  repeat' (first|refine vs (k:=?_)|refine qRg ?_|refine Nx.h ?_|fail)
  (with_reducible apply xs_call); exact rfl; exact rfl; exact isNaNS_ret _ _
  rintro v w' ⟨rfl, ho⟩; replace hs := hs.call0 ho
  repeat' (first|refine vs (k:=?_)|refine qRg ?_|refine Nx.h ?_|fail)
  (with_reducible apply xs_call); exact rfl; exact rfl; exact isNaNS_ret _ _
  rintro v w' ⟨rfl, ho⟩; replace hs := hs.call0 ho
  repeat' (first|refine vs (k:=?_)|refine qRg ?_|refine Nx.h ?_|refine qCf ?_|(refine xc_if rfl (fun hc=>?_) (fun hc=>?_))|fail)
  all_goals (first | refine rt (hq := ?_) | refine rt' (hq := ?_))
  all_goals refine ⟨?_, hs.only0 rfl⟩
  all_goals (simp only [packed, cmpI]; simp [*])
theorem compareU_ret (a b : Int) (w0 : World) : Ret Tryz.prog 62 #[.int .u64 a, .int .u64 b] w0 fun v w' => v = .int .i64 (cmpI a b) ∧ Only [] w0 w' := by
  have hs := St.nil w0
  refine ret_of_xc Tryz.func62 (by kernel_rfl) rfl Tryz.ntmps62 rfl rfl rfl ?_
  repeat' (first|refine vs (k:=?_)|refine qRg ?_|refine Nx.h ?_|fail)
  (with_reducible apply xs_call); exact rfl; exact rfl; exact isNaNU_ret _ _
  rintro v w' ⟨rfl, ho⟩; replace hs := hs.call0 ho
  repeat' (first|refine vs (k:=?_)|refine qRg ?_|refine Nx.h ?_|fail)
  (with_reducible apply xs_call); exact rfl; exact rfl; exact isNaNU_ret _ _
  rintro v w' ⟨rfl, ho⟩; replace hs := hs.call0 ho
  repeat' (first|refine vs (k:=?_)|refine qRg ?_|refine Nx.h ?_|refine qCf ?_|(refine xc_if rfl (fun hc=>?_) (fun hc=>?_))|fail)
  all_goals (first | refine rt (hq := ?_) | refine rt' (hq := ?_))
  all_goals refine ⟨?_, hs.only0 rfl⟩
  all_goals (simp only [packed, cmpI]; simp [*])
theorem or_ret (p q : Int) (b : Nat) (e : TypeId) (w0 : World) (hb : w0.heap[b]? = some (.cells #[.int .i64 p, .int .i64 q] e (0, 0))) :
    Ret Tryz.prog 60 #[.slice (some ⟨b, 0, none⟩) 2 2] w0 fun v w' => v = .int .i64 (if p = 0 then q else p) ∧ Only [] w0 w' := by
  have hs := (St.nil w0).track hb (by simp)
  refine ret_of_xc Tryz.func60 (by kernel_rfl) rfl Tryz.ntmps60 rfl rfl rfl ?_
  repeat' (first|refine vs (k:=?_)|refine qRg ?_|refine Nx.h ?_|fail)
  refine xc_loopS (fun s => [(3, .int .i64 0), (6, .slice (some ⟨b, 0, none⟩) 2 2), (7, .int .i64 2), (8, .int .i64 (s : Nat))]) (fun s w => s ≤ 2 ∧ (1 ≤ s → p = 0) ∧ (s = 2 → q = 0) ∧ St w0 D0 [(b, .cells #[.int .i64 p, .int .i64 q] e (0, 0), false)] w) (fun s => 2 - s) 0 (by (repeat (first | exact agree_nil | (apply agree_cons; exact rfl)))) ⟨by omega, by omega, by omega, hs⟩ fun s env w ⟨h1, h2, h3, hs⟩ => ?_
  have : s = 0 ∨ s = 1 ∨ s = 2 := by omega
  rcases this with rfl | rfl | rfl
  · repeat' (first|refine vs (k:=?_)|refine qRg ?_|refine Nx.h ?_|refine qCt ?_|fail)
    refine ix (h0 := (by decide)) (h1 := (by decide)) (k := ?_)
    repeat' (first|refine vs (k:=?_)|refine qRg ?_|refine Nx.h ?_|(refine xc_cond rfl (fun hc=>?_) (fun hc=>?_))|fail)
    · first | refine rt (hq := ?_) | refine rt' (hq := ?_)
      refine ⟨?_, hs.keep hb⟩
      have : p ≠ 0 := by simpa using hc
      simp [packed, this]
    · refine loopS_next 1 (by decide) (by (repeat (first | exact agree_nil | (apply agree_cons; exact rfl)))) ⟨by omega, fun _ => by simpa using hc, by omega, hs⟩
  · repeat' (first|refine vs (k:=?_)|refine qRg ?_|refine Nx.h ?_|refine qCt ?_|fail)
    refine ix (h0 := (by decide)) (h1 := (by decide)) (k := ?_)
    repeat' (first|refine vs (k:=?_)|refine qRg ?_|refine Nx.h ?_|(refine xc_cond rfl (fun hc=>?_) (fun hc=>?_))|fail)
    · first | refine rt (hq := ?_) | refine rt' (hq := ?_)
      refine ⟨?_, hs.keep hb⟩
      simp [packed, h2]
    · refine loopS_next 2 (by decide) (by (repeat (first | exact agree_nil | (apply agree_cons; exact rfl)))) ⟨by omega, fun _ => h2 (by omega), fun _ => by simpa using hc, hs⟩
  · repeat' (first|refine vs (k:=?_)|refine qRg ?_|refine Nx.h ?_|refine qCf ?_|fail)
    first | refine rt (hq := ?_) | refine rt' (hq := ?_)
    refine ⟨?_, hs.keep hb⟩
    simp [packed, h2, h3]
theorem agg_ok {s hi lo : Int} (h1 : hi = s / 18446744073709551616) (h2 : lo = s % 18446744073709551616) : Value.agg #[.int .i64 hi, .int .u64 lo] = wv s := by
  unfold wv; rw [h1, h2]
set_option maxHeartbeats 400000 in
theorem sub_ret (x y : Int) (hx : InW x) (hy : InW y) (w0 : World) : Ret Tryz.prog 109 #[wv x, wv y] w0 fun v w' => v = tellV (x - y) ∧ Only [] w0 w' := by
  obtain ⟨hx1, hx2⟩ := hx
  obtain ⟨hy1, hy2⟩ := hy
  have hs := St.nil w0
  have hb : (0 ≤ bor (x % 18446744073709551616) (y % 18446744073709551616) 0 ∧ bor (x % 18446744073709551616) (y % 18446744073709551616) 0 ≤ 1) ∧ (x % 18446744073709551616 < y % 18446744073709551616 ∧ bor (x % 18446744073709551616) (y % 18446744073709551616) 0 = 1 ∨ y % 18446744073709551616 ≤ x % 18446744073709551616 ∧ bor (x % 18446744073709551616) (y % 18446744073709551616) 0 = 0) := by unfold bor; split <;> omega
  obtain ⟨hb, hb'⟩ := hb
  refine ret_of_xc Tryz.func109 (by kernel_rfl) rfl Tryz.ntmps109 rfl rfl rfl ?_
  repeat' (first|refine vs (k:=?_)|(refine al hs (k:=?_);intro b w hz hs)|(refine bx hs (k:=?_);intro b w hz hs)|refine qRg ?_|refine Nx.h ?_|fail)
  (with_reducible apply xs_call); exact rfl; exact rfl; exact sub64_ret _ _ _ (by omega) (by omega) (by omega) (by omega) (by omega) (by omega) _
  rintro v w' ⟨rfl, rfl⟩
  repeat' (first|refine vs (k:=?_)|refine qRg ?_|refine Nx.h ?_|fail)
  (with_reducible apply xs_call); exact rfl; exact rfl; exact sub64_ret _ _ _ (by rw [wrap_u64]; omega) (by rw [wrap_u64]; omega) (by rw [wrap_u64]; omega) (by rw [wrap_u64]; omega) (by omega) (by omega) _
  rintro v w' ⟨rfl, rfl⟩
  repeat' (first|refine vs (k:=?_)|refine ps (k:=?_)|(refine stA hs (k:=?_);intro w hs)|(refine al hs (k:=?_);intro b w hz hs)|refine qRg ?_|refine Nx.h ?_|refine qCf ?_|((with_reducible apply xs_guard);exact rfl;exact rfl;intro c hc;(fail_if_success have:true=c:=hc);(fail_if_success have:false=c:=hc);cases c)|(refine xc_cond rfl (fun hc=>?_) (fun hc=>?_))|fail)
  all_goals (first | refine rt (hq := ?_) | refine rt' (hq := ?_))
  all_goals refine ⟨?_, hs.only0 rfl⟩
  all_goals simp only [wrap_u64, wrap_i64] at *
  all_goals clear hs
  all_goals generalize bor (x % 18446744073709551616) (y % 18446744073709551616) 0 = B at *
  · refine tell_ok ?_ ?_ ?_
    all_goals have hc := (decide_ne hc).1 rfl
    all_goals (try unfold InW)
    all_goals omega
  · refine tell_no ?_
    all_goals have hd := (decide_ne ‹(decide (x / 18446744073709551616 < 0) != decide (y / 18446744073709551616 < 0)) = true›).2 rfl
    all_goals have hc := (decide_ne hc).2 rfl
    all_goals (try unfold InW)
    all_goals omega
  · refine tell_ok ?_ ?_ ?_
    all_goals have hd := (decide_ne ‹(decide (x / 18446744073709551616 < 0) != decide (y / 18446744073709551616 < 0)) = true›).2 rfl
    all_goals have hc := (decide_ne hc).1 rfl
    all_goals (try unfold InW)
    all_goals omega
theorem neg_ret (x : Int) (hx : InW x) (w0 : World) : Ret Tryz.prog 161 #[wv x] w0 fun v w' => v = tellV (-x) ∧ Only [] w0 w' := by
  have hx' := hx
  obtain ⟨hx1, hx2⟩ := hx
  have hs := St.nil w0
  refine ret_of_xc Tryz.func161 (by kernel_rfl) rfl Tryz.ntmps161 rfl rfl rfl ?_
  repeat' (first|refine vs (k:=?_)|(refine stA hs (k:=?_);intro w hs)|(refine al hs (k:=?_);intro b w hz hs)|(refine bx hs (k:=?_);intro b w hz hs)|refine qRg ?_|refine Nx.h ?_|(refine xc_cond rfl (fun hc=>?_) (fun hc=>?_))|fail)
  · first | refine rt (hq := ?_) | refine rt' (hq := ?_)
    refine ⟨?_, hs.only0 rfl⟩
    refine tell_no ?_
    simp [cellEq] at hc
    unfold InW
    omega
  · (with_reducible apply xs_call); exact rfl; exact rfl; exact flip_ret x hx' _
    rintro v w' ⟨rfl, ho⟩
    replace hs := hs.call0 ho
    repeat' (first|refine vs (k:=?_)|(refine stA hs (k:=?_);intro w hs)|refine Nx.h ?_|fail)
    first | refine rt (hq := ?_) | refine rt' (hq := ?_)
    refine ⟨?_, hs.only0 rfl⟩
    simp [cellEq] at hc
    unfold negW
    rw [if_neg (by omega)]
    refine tell_ok ?_ rfl rfl
    unfold InW
    omega
end Go.Proofs.YtdkmhjiojealoaaGreatDoorX

namespace Go.Proofs.YtdkmhjiojealoaaGreatDoorX
open Go Go.RowKit Go.ChangeShapes Go.WideShapes Go.ChangeAt
theorem own : ownKnob Tryz.prog.godebug = none := by kernel_rfl
theorem laidOut : laidOutB Tryz.prog = true := by kernel_rfl
theorem int_of {k : IntKind} {a : Int} (h : (Lit.int k a).wf = true) : k.min ≤ a ∧ a ≤ k.max := by simpa [Lit.wf] using h
theorem shape_wide : Tryz.prog.underlying 49 = some (.struct #[{ name := "Hi", type := 2, offset := 0, embedded := false, tag := "", pkgPath := "", byteOffset := 0 }, { name := "Lo", type := 22, offset := 1, embedded := false, tag := "", pkgPath := "", byteOffset := 8 }]) := by kernel_rfl
set_option maxRecDepth 100000 in
theorem open_wide {H : Type} {enc : TypeId × Value → H} {W : World} {r : Reach} {b0 base : Nat} {spare : Nat → Bool} {held : Bool} {v : Value} {d : DataW H} {p : List MemPlace} (hv : Value.okWide Tryz.prog W r b0 49 v)
    (h : DataW.Trod enc Tryz.prog W base spare held 49 v d p) : ∃ x, InW x ∧ v = wv x := by
  obtain ⟨v0, v1, y0, y1, n, rfl, _, _, h0, h1⟩ := Go.Joins.open_agg2 shape_wide (by kernel_rfl) (by kernel_rfl) hv h
  obtain ⟨a, ha, _, wa⟩ := DataW.trod_int (t := 2) (k := .i64) (by kernel_rfl) h0
  obtain ⟨b, hb, _, wb⟩ := DataW.trod_int (t := 22) (k := .u64) (by kernel_rfl) h1
  obtain rfl : v0 = .int .i64 a := by simpa using ha
  obtain rfl : v1 = .int .u64 b := by simpa using hb
  have w1 : -9223372036854775808 ≤ a ∧ a < 9223372036854775808 := by
    have h : IntKind.i64.min ≤ a ∧ a ≤ IntKind.i64.max := by simpa [Lit.wf] using wa
    have e1 : IntKind.i64.min = -9223372036854775808 := rfl
    have e2 : IntKind.i64.max = 9223372036854775807 := rfl
    omega
  have w2 : 0 ≤ b ∧ b < 18446744073709551616 := by
    have h : IntKind.u64.min ≤ b ∧ b ≤ IntKind.u64.max := by simpa [Lit.wf] using wb
    have e1 : IntKind.u64.min = 0 := rfl
    have e2 : IntKind.u64.max = 18446744073709551615 := rfl
    omega
  refine ⟨a * 18446744073709551616 + b, ?_, (agg_ok ?_ ?_)⟩
  · unfold InW; omega
  · omega
  · omega
end Go.Proofs.YtdkmhjiojealoaaGreatDoorX

namespace Go.Proofs.YtdkmhjiojealoaaGreatDoorX
open Go Go.RowKit
section
variable {P : Program} {ops : Array Oper} {QE : Exit → Env → World → Prop} {n : Nat} {rest : List Oper} {env : Env} {w wb : World} {D : Ctx} {H : List Ent} {T : Tab}
  {d : Option Nat} {ty : Nat} {pos : String} {aft : Array Edge} {g : Option (Nat × Bool)}
theorem append_many {t e size bytes : Nat} (hu : P.underlying t = some (.slice e)) {i : TypeInfo} (hi : P.info? e = some i) (hs1 : i.size = size) (hs2 : i.bytes = bytes) {z : Value} (hz : i.zero = some z) (hzc : z.cells.size = size)
    {v : Value} {k : Nat} {xs news : List Value} {a : Addr} {c m : Nat} (hO : OwnS wb D H e size v k xs w) (hl : news.length = c * size) (hc0 : 0 < c) (hcs : ∀ (j : Nat) u, news[j]? = some u → w.cell? (a.add j) = some u) (h1 : ∀ u ∈ news, u.oneCell' = true)
    (hk : (k + c) * bytes ≤ 140737488355328) (hk' : k + c ≤ 9223372036854775807) :
    ∃ v' w', (Builtin.append_ #[t, t] ty #[v, .slice (some a) c m]).run P w = .ok v' w' ∧ OwnS wb D H e size v' (k + c) (xs ++ news) w' ∧ v' ≠ .slice none 0 0 := by
  subst hs1 hs2
  have hcb : c * i.bytes ≤ 281474976710656 := by
    have := Nat.mul_le_mul_right i.bytes (show c ≤ k + c by omega)
    omega
  rcases hO with ⟨rfl, rfl, rfl, hs⟩ | ⟨g, cap, cur, rfl, hc, hcl, hxl, htk, hs⟩
  · have hr := run_append_nil (P := P) w t ty e i z hu hi hz a c m news hl hcs hc0 (by omega) hcb
    refine ⟨_, _, hr, .inr ⟨w.heap.size, grownCap w c 0 e, (news.toArray ++ Builtin.zeroCells z.cells (grownCap w c 0 e - c)).toList, by rw [Nat.zero_add], by rw [Nat.zero_add]; exact grownCap_ge w c 0 e, ?_, ?_, ?_, hs.drew'.alloc _⟩, by simp⟩
    · have := grownCap_ge w c 0 e
      simp only [Array.toList_append, List.length_append, zero_list, hzc, hl]
      rw [← Nat.add_mul]; congr 1; omega
    · rw [Nat.zero_add, List.nil_append, hl]
    · rw [List.nil_append, Nat.zero_add, Array.toList_append, List.take_append_of_le_length (by simp [hl])]
      exact List.take_of_length_le (by simp [hl])
  · have hg := hs.get At.head
    by_cases hroom : k + c ≤ cap
    · have hfit : k * i.size + news.length ≤ cur.toArray.size := by
        rw [hl, List.size_toArray, hcl, ← Nat.add_mul]; exact Nat.mul_le_mul_right _ hroom
      have hr := run_append_room (P := P) w t ty e i hu hi g k cap cur.toArray hg a c m news hl hcs h1 hroom hfit
      simp only [List.size_toArray] at hfit
      refine ⟨_, _, hr, .inr ⟨g, cap, (cur.take (k * i.size) ++ news ++ cur.drop (k * i.size + news.length)), rfl, hroom, ?_, ?_, ?_, hs.row At.head _⟩, by simp⟩
      · simp only [List.length_append, List.length_take, List.length_drop]
        omega
      · rw [List.length_append, hxl, hl, Nat.add_mul]
      · rw [List.append_assoc, ← List.append_assoc, htk, List.take_append_of_le_length (by rw [List.length_append, hxl, hl, Nat.add_mul]; exact Nat.le_refl _)]
        exact List.take_of_length_le (by rw [List.length_append, hxl, hl, Nat.add_mul]; exact Nat.le_refl _)
    · have hold : ∀ (j : Nat) u, xs[j]? = some u → w.cell? ((⟨g, 0, none⟩ : Addr).add j) = some u := fun j u hj => by
        rw [add_addr]
        rw [← htk, List.getElem?_take] at hj
        split at hj
        · simp [World.cell?, hg, hj]
        · cases hj
      have hr := run_append_grow (P := P) w t ty e i z hu hi hz ⟨g, 0, none⟩ k cap xs hxl hold a c m news hl hcs (by omega) (by omega) (growslice_fits (by omega) hk)
      have hge := grownCap_ge w (k + c) cap e
      refine ⟨_, _, hr, .inr ⟨w.heap.size, grownCap w (k + c) cap e, (xs.toArray ++ news.toArray ++ Builtin.zeroCells z.cells (grownCap w (k + c) cap e - (k + c))).toList, rfl, hge, ?_, ?_, ?_, (hs.drew'.alloc _).swap.forgetNew⟩, by simp⟩
      · simp only [Array.toList_append, List.length_append, zero_list, hzc, hl, hxl]
        rw [← Nat.add_mul, ← Nat.add_mul]; congr 1; omega
      · rw [List.length_append, hxl, hl, Nat.add_mul]
      · rw [Array.toList_append, Array.toList_append, List.take_append_of_le_length (by simp [hxl, hl, Nat.add_mul])]
        exact List.take_of_length_le (by simp [hxl, hl, Nat.add_mul])
theorem xs_appendS (hT : TabOk P T) {t e size bytes : Nat} {zs news : List Value} {x y : Operand} {v : Value} {k c m : Nat} {a : Addr} {xs : List Value} (hw : wantedE ops env g = true) (hsl : look t T.sls = some (e, size, bytes)) (hz : look e T.zs = some zs) (hzl : Nat.beq zs.length size = true)
    (hx : ev env x = v) (hy : ev env y = .slice (some a) c m) (hl : news.length = c * size) (hc0 : 0 < c) (hcs : ∀ (j : Nat) u, news[j]? = some u → w.cell? (a.add j) = some u) (h1 : ∀ u ∈ news, u.oneCell' = true) (hO : OwnS wb D H e size v k xs w)
    (hk : (k + c) * bytes ≤ 140737488355328) (hk' : k + c ≤ 9223372036854775807) (kk : ∀ v' w', OwnS wb D H e size v' (k + c) (xs ++ news) w' → v' ≠ .slice none 0 0 → XS P ops QE n rest (updO env d v') w') :
    XS P ops QE n (⟨d, .call { callee := .builtin .append, args := #[x, y], argTypes := #[t, t] }, ty, pos, aft, g⟩ :: rest) env w := by
  obtain ⟨hu, i, hi, hs1, hs2⟩ := sl_parts (hT.sl hsl)
  obtain ⟨i', z, hi', hz', hzc⟩ := z_parts (hT.z hz)
  rw [hi] at hi'; cases hi'
  obtain ⟨v', w', hr, h2, h3⟩ := append_many (P := P) (ty := ty) (m := m) hu hi hs1 hs2 hz' (by rw [hzc]; simpa using Nat.eq_of_beq_eq_true hzl) hO hl hc0 hcs h1 hk hk'
  refine XS.value hw (v := v') (w' := w') ?_ (kk v' w' h2 h3)
  simp [execOp, resolve, Sem.run_bind, invoke, builtin, hx, hy, hr]
theorem xs_buildSlice0 (hT : TabOk P T) {t e size bytes : Nat} (hw : wantedE ops env g = true) (hsl : look t T.sls = some (e, size, bytes)) (hs : St wb D H w)
    (k : ∀ v w', OwnS wb D H e size v 0 [] w' → v ≠ .slice none 0 0 → XS P ops QE n rest (updO env d v) w') :
    XS P ops QE n (⟨d, .buildSlice t 0 #[], ty, pos, aft, g⟩ :: rest) env w := by
  obtain ⟨hu, i, hi, hs1, hs2⟩ := sl_parts (hT.sl hsl)
  refine XS.value hw (w' := { w with heap := w.heap.push (.cells #[] e) }) (v := .slice (some ⟨w.heap.size, 0, none⟩) 0 0) ?_ (k _ _ (.inr ⟨w.heap.size, 0, [], rfl, Nat.le_refl _, by simp, by simp, by simp, hs.alloc _⟩) (by simp))
  simp only [execOp, Sem.run_bind, Instr.buildSlice, run_underlying' hu, Result.andThen_ok, sizeOf, run_typeInfo' hi, Sem.run_pure]
  simp [Instr.fill, newRow, newObj, Sem.run, Sem.run_bind]
  rw [show (Array.range 0).map (fun _ => (default : Value)) = #[] by simp [Array.range]]
theorem St.rebase (hs : St wb D H w) : St w D0 (H.map fun e => (e.1, e.2.1, false)) w where
  at_ := fun e he => by
    obtain ⟨e', he', rfl⟩ := List.mem_map.1 he
    exact hs.at_ e' he'
  nd := by rw [List.map_map]; exact hs.nd
  new := fun p hp h => by
    obtain ⟨e, he, rfl⟩ := List.mem_map.1 hp
    obtain ⟨e', he', rfl⟩ := List.mem_map.1 he
    cases h
  os := rfl
  tape := rfl
  output := rfl
  size := Nat.le_refl _
  frame := fun _ _ _ _ => rfl
  ro := by simp [D0]
  ap := by simp [D0]
end
theorem St.onlyF {wb w : World} {D : Ctx} {H : List Ent} (hs : St wb D H w) (F : List Nat) (hF : ∀ e ∈ H, e.2.2 = true ∨ e.1 ∈ F ∨ wb.heap[e.1]? = some e.2.1) (hD : ∀ k ∈ D.dirty, k ∈ F) : Only F wb w :=
  ⟨hs.os, hs.tape, hs.output, hs.size, fun k hk hn => by
    by_cases h1 : k ∈ H.map (·.1)
    · obtain ⟨e, he, rfl⟩ := List.mem_map.1 h1
      rcases hF e he with h | h | h
      · exact absurd hk (Nat.not_lt.2 (hs.new (e.1, e.2.2) (List.mem_map.2 ⟨e, he, rfl⟩) h))
      · exact absurd h hn
      · rw [hs.at_ e he, h]
    · exact hs.frame k hk (fun h => hn (hD k h)) h1⟩
theorem Only.step {w0 w1 w2 : World} {F G : List Nat} (h : Only F w0 w1) (k : Only G w1 w2) (hG : ∀ k ∈ G, k ∈ F ∨ w0.heap.size ≤ k) : Only F w0 w2 :=
  (h.trans k).mono fun k hk hm => by
    rcases List.mem_append.1 hm with hm | hm
    · exact hm
    · rcases hG k hm with h | h
      · exact h
      · omega
theorem blocks_ne {w : World} {a b : Nat} {ca cb : Array Value} {ta tb : TypeId} {fa fb : Nat × Nat} (h : w.heap[a]? = some (.cells ca ta fa)) (k : w.heap[b]? = some (.cells cb tb fb)) (hne : ta ≠ tb) : a ≠ b := fun e => by
  subst e
  rw [h] at k
  cases k
  exact hne rfl
end Go.Proofs.YtdkmhjiojealoaaGreatDoorX

namespace Go.Proofs.YtdkmhjiojealoaaGreatDoorX
open Go Go.RowKit
section
variable {P : Program} {ops : Array Oper} {E : List Nat} {H : List Ent} {QE : Exit → Env → World → Prop} {n : Nat} {env : Env} {w wb : World} {D : Ctx} {fuel : Nat} {listed : Array Bool}
theorem xa_core (i : Nat) {o : Oper} (hX : XH ops E QE n) (hi : ops[i]? = some o) (h : XS P ops (doneE P ops E H QE n fuel (listed.setIfInBounds i true)) n [o] env w) (a : Act) (hf : Fits n env a) :
    wpOp P ops (lift n QE) i (fun a' w' => SE E H (listed.setIfInBounds i true) w' ∧ wpAnyL P ops (lift n QE) (SE E H) fuel (listed.setIfInBounds i true) a' w') a w := by
  have hd : dOk n o = true := List.all_eq_true.1 hX.dst o (by have := Array.mem_of_getElem? hi; simpa using this)
  have h := h (by simp [hd]) a hf
  have hp : ∀ c a w, lift n (doneE P ops E H QE n fuel (listed.setIfInBounds i true)) (.panic c) a w → lift n QE (.panic c) a w := fun c a w ⟨env, hf, hq⟩ => ⟨env, hf, hq⟩
  have ho : LetsOut (lift n (doneE P ops E H QE n fuel (listed.setIfInBounds i true))) → LetsOut (lift n QE) := fun ⟨a, w, env, hf, hq⟩ => hq.elim
  unfold wpList at h
  unfold wpOp
  simp only [hi]
  split
  · rename_i hw
    rw [if_pos hw] at h
    rcases h with h | ⟨h1, h2⟩
    · refine .inl (upon_weaken hp ho (Oper.wp_mono (fun a' w' hn => ?_) h))
      simp only [wpList] at hn
      obtain ⟨env', hf', hS, hx⟩ := hn
      exact ⟨hS, hx a' hf'⟩
    · exact .inr ⟨h1, ho h2⟩
  · rename_i hw
    rw [if_neg hw] at h
    simp only [wpList] at h
    obtain ⟨env', hf', hS, hx⟩ := h
    exact ⟨hS, hx _ hf'⟩
theorem xa_do2 (i j : Nat) {d d' : Option Nat} {op op' : Op} {ty ty' : Nat} {pos pos' : String} {aft aft' : Array Edge} {g g' : Option (Nat × Bool)} (hX : XH ops E QE n) (hi : ops[i]? = some ⟨d, op, ty, pos, aft, g⟩ := by exact rfl) (hj : ops[j]? = some ⟨d', op', ty', pos', aft', g'⟩ := by exact rfl)
    (hr : Region.ready .any ops listed = [i, j] := by kernel_rfl) (h1 : XS P ops (doneE P ops E H QE n fuel (listed.setIfInBounds i true)) n [⟨d, op, ty, pos, aft, g⟩] env w) (h2 : XS P ops (doneE P ops E H QE n fuel (listed.setIfInBounds j true)) n [⟨d', op', ty', pos', aft', g'⟩] env w) : XA P ops E H QE n (fuel + 1) listed env w := by
  intro a hf
  refine ⟨fun h0 => (by rw [h0] at hr; cases hr), fun k hk => ?_⟩
  rw [hr] at hk
  simp only [List.mem_cons, List.not_mem_nil, or_false] at hk
  rcases hk with rfl | rfl
  · exact xa_core _ hX hi h1 a hf
  · exact xa_core _ hX hj h2 a hf
theorem xa_do3 (i j l : Nat) {d d' d'' : Option Nat} {op op' op'' : Op} {ty ty' ty'' : Nat} {pos pos' pos'' : String} {aft aft' aft'' : Array Edge} {g g' g'' : Option (Nat × Bool)} (hX : XH ops E QE n) (hi : ops[i]? = some ⟨d, op, ty, pos, aft, g⟩ := by exact rfl) (hj : ops[j]? = some ⟨d', op', ty', pos', aft', g'⟩ := by exact rfl) (hl : ops[l]? = some ⟨d'', op'', ty'', pos'', aft'', g''⟩ := by exact rfl)
    (hr : Region.ready .any ops listed = [i, j, l] := by kernel_rfl) (h1 : XS P ops (doneE P ops E H QE n fuel (listed.setIfInBounds i true)) n [⟨d, op, ty, pos, aft, g⟩] env w) (h2 : XS P ops (doneE P ops E H QE n fuel (listed.setIfInBounds j true)) n [⟨d', op', ty', pos', aft', g'⟩] env w)
    (h3 : XS P ops (doneE P ops E H QE n fuel (listed.setIfInBounds l true)) n [⟨d'', op'', ty'', pos'', aft'', g''⟩] env w) : XA P ops E H QE n (fuel + 1) listed env w := by
  intro a hf
  refine ⟨fun h0 => (by rw [h0] at hr; cases hr), fun k hk => ?_⟩
  rw [hr] at hk
  simp only [List.mem_cons, List.not_mem_nil, or_false] at hk
  rcases hk with rfl | rfl | rfl
  · exact xa_core _ hX hi h1 a hf
  · exact xa_core _ hX hj h2 a hf
  · exact xa_core _ hX hl h3 a hf
theorem St.perm {H' : List Ent} (hs : St wb D H w) (h : H'.Perm H) : St wb D H' w :=
  { hs with
    at_ := fun e he => hs.at_ e (h.mem_iff.1 he)
    nd := (h.map _).nodup_iff.2 hs.nd
    new := fun p hp => hs.new p ((h.map _).mem_iff.1 hp)
    frame := fun k h1 h2 h3 => hs.frame k h1 h2 (fun h4 => h3 ((h.map _).mem_iff.2 h4))
    ap := fun e he h4 => hs.ap e he ((h.map _).mem_iff.1 h4) }
end
section
variable {ops : Array Oper} {QE : Exit → Env → World → Prop} {n : Nat} {rest : List Oper} {env : Env} {w wb : World} {d : Option Nat} {ty : Nat} {pos : String} {aft : Array Edge} {g : Option (Nat × Bool)}
theorem lh2 {t b off : Nat} {x : Operand} {cs : List Value} {E : TypeId} {fr : Nat × Nat} {v0 v1 : Value} (hb : w.heap[b]? = some (.cells cs.toArray E fr)) (h0 : cs[off]? = some v0) (h1 : cs[off + 1]? = some v1) (hw : wantedE ops env g = true := by exact rfl) (ht : look t tab.tks = some (true, 2) := by exact rfl)
    (hp : ev env x = .pointer (some ⟨b, off, none⟩) := by exact rfl)
    (k : XS Tryz.prog ops QE n rest (updO env d (.agg #[v0, v1])) w) : XS Tryz.prog ops QE n (⟨d, .load t x, ty, pos, aft, g⟩ :: rest) env w :=
  have hc : Pick cs off 2 [v0, v1] := .cons h0 (.cons h1 .nil)
  xs_val hw (by simp [execOp, hp, Instr.loadAt, Instr.sureAddr, Sem.run_bind, run_loadVar_agg (tabOk.tk ht) hb hc.le, hc.eq.2]) k
end
end Go.Proofs.YtdkmhjiojealoaaGreatDoorX

namespace Go.Proofs.YtdkmhjiojealoaaGreatDoorX
open Go Go.RowKit
def SlV (w : World) (e k : Nat) (v : Value) (n : Nat) (xs : List Value) (G : List Nat) : Prop :=
  (v = .slice none 0 0 ∧ n = 0 ∧ xs = [] ∧ G = []) ∨
  ∃ (g cap : Nat) (cur : List Value), v = .slice (some ⟨g, 0, none⟩) n cap ∧ G = [g] ∧ n ≤ cap ∧ cur.length = cap * k ∧ xs.length = n * k ∧ cur.take (n * k) = xs ∧ w.heap[g]? = some (.cells cur.toArray e (0, 0))
section
variable {P : Program} {ops : Array Oper} {QE : Exit → Env → World → Prop} {n : Nat} {rest : List Oper} {env : Env} {w wb : World} {D : Ctx} {H : List Ent} {T : Tab}
  {d : Option Nat} {ty : Nat} {pos : String} {aft : Array Edge} {g : Option (Nat × Bool)}
theorem append_w {t e size bytes : Nat} (hu : P.underlying t = some (.slice e)) {i : TypeInfo} (hi : P.info? e = some i) (hs1 : i.size = size) (hs2 : i.bytes = bytes) {z : Value} (hz : i.zero = some z) (hzc : z.cells.size = size)
    {v : Value} {k : Nat} {xs news : List Value} {a : Addr} {c m : Nat} {G : List Nat} (hO : SlV w e size v k xs G) (hl : news.length = c * size) (hc0 : 0 < c) (hcs : ∀ (j : Nat) u, news[j]? = some u → w.cell? (a.add j) = some u) (h1 : ∀ u ∈ news, u.oneCell' = true)
    (hk : (k + c) * bytes ≤ 140737488355328) (hk' : k + c ≤ 9223372036854775807) :
    ∃ v' w', (Builtin.append_ #[t, t] ty #[v, .slice (some a) c m]).run P w = .ok v' w' ∧ (∃ G', SlV w' e size v' (k + c) (xs ++ news) G' ∧ ∀ i ∈ G', i ∈ G ∨ w.heap.size ≤ i) ∧ Only G w w' := by
  subst hs1 hs2
  have hcb : c * i.bytes ≤ 281474976710656 := by
    have := Nat.mul_le_mul_right i.bytes (show c ≤ k + c by omega)
    omega
  rcases hO with ⟨rfl, rfl, rfl, rfl⟩ | ⟨g, cap, cur, rfl, rfl, hc, hcl, hxl, htk, hg⟩
  · have hr := run_append_nil (P := P) w t ty e i z hu hi hz a c m news hl hcs hc0 (by omega) hcb
    have hs := (St.nil w).drew'.alloc (.cells (news.toArray ++ Builtin.zeroCells z.cells (grownCap w c 0 e - c)) e)
    refine ⟨_, _, hr, ⟨[w.heap.size], .inr ⟨w.heap.size, grownCap w c 0 e, (news.toArray ++ Builtin.zeroCells z.cells (grownCap w c 0 e - c)).toList, by rw [Nat.zero_add], rfl, by rw [Nat.zero_add]; exact grownCap_ge w c 0 e, ?_, ?_, ?_, hs.get At.head⟩, by simp⟩, hs.only0 rfl⟩
    · have := grownCap_ge w c 0 e
      simp only [Array.toList_append, List.length_append, zero_list, hzc, hl]
      rw [← Nat.add_mul]; congr 1; omega
    · rw [Nat.zero_add, List.nil_append, hl]
    · rw [List.nil_append, Nat.zero_add, Array.toList_append, List.take_append_of_le_length (by simp [hl])]
      exact List.take_of_length_le (by simp [hl])
  · have hs0 := (St.nil w).track hg (by simp)
    by_cases hroom : k + c ≤ cap
    · have hfit : k * i.size + news.length ≤ cur.toArray.size := by
        rw [hl, List.size_toArray, hcl, ← Nat.add_mul]; exact Nat.mul_le_mul_right _ hroom
      have hr := run_append_room (P := P) w t ty e i hu hi g k cap cur.toArray hg a c m news hl hcs h1 hroom hfit
      simp only [List.size_toArray] at hfit
      have hs := hs0.row At.head (cur.take (k * i.size) ++ news ++ cur.drop (k * i.size + news.length)).toArray
      refine ⟨_, _, hr, ⟨[g], .inr ⟨g, cap, (cur.take (k * i.size) ++ news ++ cur.drop (k * i.size + news.length)), rfl, rfl, hroom, ?_, ?_, ?_, hs.get At.head⟩, by simp⟩, hs.onlyF [g] (by simp) (by simp [D0])⟩
      · simp only [List.length_append, List.length_take, List.length_drop]
        omega
      · rw [List.length_append, hxl, hl, Nat.add_mul]
      · rw [List.append_assoc, ← List.append_assoc, htk, List.take_append_of_le_length (by rw [List.length_append, hxl, hl, Nat.add_mul]; exact Nat.le_refl _)]
        exact List.take_of_length_le (by rw [List.length_append, hxl, hl, Nat.add_mul]; exact Nat.le_refl _)
    · have hold : ∀ (j : Nat) u, xs[j]? = some u → w.cell? ((⟨g, 0, none⟩ : Addr).add j) = some u := fun j u hj => by
        rw [add_addr]
        rw [← htk, List.getElem?_take] at hj
        split at hj
        · simp [World.cell?, hg, hj]
        · cases hj
      have hr := run_append_grow (P := P) w t ty e i z hu hi hz ⟨g, 0, none⟩ k cap xs hxl hold a c m news hl hcs (by omega) (by omega) (growslice_fits (by omega) hk)
      have hge := grownCap_ge w (k + c) cap e
      have hs := hs0.drew'.alloc (.cells (xs.toArray ++ news.toArray ++ Builtin.zeroCells z.cells (grownCap w (k + c) cap e - (k + c))) e)
      refine ⟨_, _, hr, ⟨[w.heap.size], .inr ⟨w.heap.size, grownCap w (k + c) cap e, (xs.toArray ++ news.toArray ++ Builtin.zeroCells z.cells (grownCap w (k + c) cap e - (k + c))).toList, rfl, rfl, hge, ?_, ?_, ?_, hs.get At.head⟩, by simp⟩, hs.onlyF [g] (by simp) (by simp [D0])⟩
      · simp only [Array.toList_append, List.length_append, zero_list, hzc, hl, hxl]
        rw [← Nat.add_mul, ← Nat.add_mul]; congr 1; omega
      · rw [List.length_append, hxl, hl, Nat.add_mul]
      · rw [Array.toList_append, Array.toList_append, List.take_append_of_le_length (by simp [hxl, hl, Nat.add_mul])]
        exact List.take_of_length_le (by simp [hxl, hl, Nat.add_mul])
theorem xs_appendW (hT : TabOk P T) {t e size bytes : Nat} {zs news : List Value} {x y : Operand} {v : Value} {k c m : Nat} {a : Addr} {xs : List Value} {G : List Nat} (hw : wantedE ops env g = true) (hsl : look t T.sls = some (e, size, bytes)) (hz : look e T.zs = some zs) (hzl : Nat.beq zs.length size = true)
    (hx : ev env x = v) (hy : ev env y = .slice (some a) c m) (hl : news.length = c * size) (hc0 : 0 < c) (hcs : ∀ (j : Nat) u, news[j]? = some u → w.cell? (a.add j) = some u) (h1 : ∀ u ∈ news, u.oneCell' = true) (hO : SlV w e size v k xs G)
    (hk : (k + c) * bytes ≤ 140737488355328) (hk' : k + c ≤ 9223372036854775807) (kk : ∀ v' w', (∃ G', SlV w' e size v' (k + c) (xs ++ news) G' ∧ ∀ i ∈ G', i ∈ G ∨ w.heap.size ≤ i) → Only G w w' → XS P ops QE n rest (updO env d v') w') :
    XS P ops QE n (⟨d, .call { callee := .builtin .append, args := #[x, y], argTypes := #[t, t] }, ty, pos, aft, g⟩ :: rest) env w := by
  obtain ⟨hu, i, hi, hs1, hs2⟩ := sl_parts (hT.sl hsl)
  obtain ⟨i', z, hi', hz', hzc⟩ := z_parts (hT.z hz)
  rw [hi] at hi'; cases hi'
  obtain ⟨v', w', hr, h2, h3⟩ := append_w (P := P) (ty := ty) (m := m) hu hi hs1 hs2 hz' (by rw [hzc]; simpa using Nat.eq_of_beq_eq_true hzl) hO hl hc0 hcs h1 hk hk'
  refine XS.value hw (v := v') (w' := w') ?_ (kk v' w' h2 h3)
  simp [execOp, resolve, Sem.run_bind, invoke, builtin, hx, hy, hr]
end
theorem SlV.lt {w : World} {e k n : Nat} {v : Value} {xs : List Value} {G : List Nat} (h : SlV w e k v n xs G) : ∀ b ∈ G, b < w.heap.size := by
  rcases h with ⟨_, _, _, rfl⟩ | ⟨g, cap, cur, _, rfl, _, _, _, _, hg⟩
  · intro b hb; cases hb
  · intro b hb
    obtain rfl := List.mem_singleton.1 hb
    exact lt_of_block hg
theorem SlV.keep {w w' : World} {e k n : Nat} {v : Value} {xs : List Value} {G F : List Nat} (h : SlV w e k v n xs G) (ho : Only F w w') (hd : ∀ b ∈ G, b ∉ F) : SlV w' e k v n xs G := by
  rcases h with ⟨h1, h2, h3, h4⟩ | ⟨g, cap, cur, h1, rfl, h3, h4, h5, h6, hg⟩
  · exact .inl ⟨h1, h2, h3, h4⟩
  · exact .inr ⟨g, cap, cur, h1, rfl, h3, h4, h5, h6, ho.block hg (hd g List.mem_cons_self)⟩
end Go.Proofs.YtdkmhjiojealoaaGreatDoorX

namespace Go.Proofs.YtdkmhjiojealoaaGreatDoorX
open Go Go.RowKit
section
variable {P : Program} {ops : Array Oper} {E : List Nat} {H HH : List Ent} {QE : Exit → Env → World → Prop} {n : Nat} {env : Env} {w wb : World} {D : Ctx} {fuel : Nat} {T : Tab}
theorem St.adopt {b : Nat} {o : Obj} {w' : World} (hs : St wb D H w) (ho : Only [] w w') (hb : w'.heap[b]? = some o) (hz : w.heap.size ≤ b) : St wb D ((b, o, true) :: H) w' := by
  have h := hs.call0 ho
  have hlt : ∀ {k : Nat} {o' : Obj}, w.heap[k]? = some o' → k ≠ b := fun hk e => by have := lt_of_block hk; omega
  refine ⟨fun e he => ?_, ?_, fun p hp hq => ?_, h.os, h.tape, h.output, h.size, fun k hk hd hm => ?_, h.ro, fun e he hm => ?_⟩
  · rcases List.mem_cons.1 he with rfl | he
    · exact hb
    · exact h.at_ e he
  · rw [List.map_cons, List.nodup_cons]
    refine ⟨fun hm => ?_, h.nd⟩
    obtain ⟨e, he, h1⟩ := List.mem_map.1 hm
    exact hlt (hs.at_ e he) h1
  · rw [List.map_cons, List.mem_cons] at hp
    rcases hp with rfl | hp
    · exact Nat.le_trans hs.size hz
    · exact h.new p hp hq
  · rw [List.map_cons, List.mem_cons, not_or] at hm
    exact h.frame k hk hd hm.2
  · rw [List.map_cons, List.mem_cons] at hm
    rcases hm with hm | hm
    · exact hlt (hs.ro e he) hm
    · exact h.ap e he hm
def Lasts (I : World → Prop) : Prop := ∀ w w', Only [] w w' → I w → I w'
def PendC (wb : World) (D : Ctx) (H : List Ent) (o : Obj) (Y : Nat → Value) : Bool → Value → World → Prop
  | false, _, w => St wb D H w
  | true, X, w => ∃ b, X = Y b ∧ St wb D ((b, o, true) :: H) w
structure Pend (wb : World) (D : Ctx) (H : List Ent) (o : Obj) (Y : Nat → Value) (I : World → Prop) (f : Bool) (X : Value) (w : World) : Prop where
  core : PendC wb D H o Y f X w
  inv : I w
  lasts : Lasts I
theorem PendC.st {o : Obj} {Y : Nat → Value} : ∀ {f : Bool} {X : Value}, PendC wb D H o Y f X w → St wb D H w
  | false, _, h => h
  | true, _, ⟨_, _, h⟩ => h.forgetNew
theorem Pend.st {o : Obj} {Y : Nat → Value} {I : World → Prop} {f : Bool} {X : Value} (h : Pend wb D H o Y I f X w) : St wb D H w := h.core.st
theorem PendC.only {o : Obj} {Y : Nat → Value} {w' : World} (ho : Only [] w w') : ∀ {f : Bool} {X : Value}, PendC wb D H o Y f X w → PendC wb D H o Y f X w'
  | false, _, h => St.call0 h ho
  | true, _, ⟨b, e, h⟩ => ⟨b, e, h.call0 ho⟩
theorem Pend.only {o : Obj} {Y : Nat → Value} {I : World → Prop} {f : Bool} {X : Value} {w' : World} (h : Pend wb D H o Y I f X w) (ho : Only [] w w') : Pend wb D H o Y I f X w' := ⟨h.core.only ho, h.lasts _ _ ho h.inv, h.lasts⟩
theorem PendC.call {o : Obj} {Y : Nat → Value} {w' : World} {F : List Nat} (ho : Only F w w') (hl : ∀ k ∈ F, k < wb.heap.size) (hF : ∀ k ∈ F, k ∉ H.map (·.1)) (hR : ∀ k ∈ F, k ∉ D.ro.map (·.1)) : ∀ {f : Bool} {X : Value}, PendC wb D H o Y f X w → PendC wb ⟨F ++ D.dirty, D.ro⟩ H o Y f X w'
  | false, _, h => St.call h ho hF hR
  | true, _, ⟨b, e, h⟩ => ⟨b, e, h.call ho (fun k hk hm => by
      simp only [List.map_cons, List.mem_cons] at hm
      rcases hm with rfl | hm
      · have := h.new (k, true) (by simp) rfl
        have := hl k hk
        simp only at *
        omega
      · exact hF k hk hm) hR⟩
theorem Pend.adopt {o o' : Obj} {Y : Nat → Value} {I : World → Prop} {w' : World} {b' : Nat} (ho : Only [] w w') (hb : w'.heap[b']? = some o') (hz : w.heap.size ≤ b') : ∀ {f : Bool} {X : Value}, Pend wb D H o Y I f X w → Pend wb D ((b', o', true) :: H) o Y I f X w'
  | false, _, ⟨h, h1, h2⟩ => ⟨St.adopt h ho hb hz, h2 _ _ ho h1, h2⟩
  | true, _, ⟨⟨b, e, h⟩, h1, h2⟩ => ⟨⟨b, e, (h.adopt ho hb hz).perm (List.Perm.swap _ _ _)⟩, h2 _ _ ho h1, h2⟩
theorem more_fuel {Q : Exit → Act → World → Prop} {S : Array Bool → World → Prop} : ∀ (fuel : Nat) (listed : Array Bool) (a : Act) (w : World), wpAnyL P ops Q S fuel listed a w → wpAnyL P ops Q S (fuel + 1) listed a w
  | 0, _, _, _, h => ⟨fun _ => h.2, fun i hi => by rw [h.1] at hi; cases hi⟩
  | fuel + 1, _, _, _, h => ⟨h.1, fun i hi => wpOp_mono (fun a' w' h' => ⟨h'.1, more_fuel fuel _ a' w' h'.2⟩) (h.2 i hi)⟩
def fl (f : Bool) : Nat := bif f then 0 else 1
def Makes (P : Program) (ops : Array Oper) (n : Nat) (o : Obj) (Y : Nat → Value) (d : Nat) (oa : Oper) (g : Value → Env) : Prop :=
  ∀ (QE : Exit → Env → World → Prop) (X : Value) (w : World), (∀ b w', Only [] w w' → w'.heap[b]? = some o → w.heap.size ≤ b → QE .normal (upd (g X) d (Y b)) w') → XS P ops QE n [oa] (g X) w
theorem makes_alloc (hT : TabOk P T) {t d ty : Nat} {pos : String} {aft : Array Edge} {cs : List Value} {g : Value → Env} (hz : look t T.zs = some cs) :
    Makes P ops n (.cells cs.toArray t (0, 0)) (fun b => .pointer (some ⟨b, 0, none⟩)) d ⟨some d, .alloc t, ty, pos, aft, none⟩ g := fun QE X w k =>
  xs_alloc hT hz rfl (St.nil w) fun b w' _ hs' => XS.nil (k b w' (hs'.only0 rfl) (hs'.get At.head) (hs'.new (b, true) (by simp) rfl))
theorem makes_slice (hT : TabOk P T) {t e size bytes len d ty : Nat} {pos : String} {aft : Array Edge} {parts : Array (Nat × Operand)} {zs cs : List Value} {g : Value → Env} (hsl : look t T.sls = some (e, size, bytes)) (hz : look e T.zs = some zs) (hzl : Nat.beq zs.length size = true) (hsm : Nat.ble (len * size) 16777216 = true) (hps : Nat.beq (len * size) 0 = false)
    (hb : ∀ X, Bld (g X) (rowPl len size) (rowZ zs (len * size)) parts.toList cs) :
    Makes P ops n (.cells cs.toArray e (0, 0)) (fun b => .slice (some ⟨b, 0, none⟩) len len) d ⟨some d, .buildSlice t len parts, ty, pos, aft, none⟩ g := fun QE X w k =>
  xs_buildSlice hT rfl hsl hz hzl hsm hps (hb X) (St.nil w) fun b w' _ hs' => XS.nil (k b w' (hs'.only0 rfl) (hs'.get At.head) (hs'.new (b, true) (by simp) rfl))
theorem pend_made {a d : Nat} {oa : Oper} {o : Obj} {Y : Nat → Value} {I : World → Prop} {m : Nat} {listed : Array Bool} {g : Value → Env} {X Z : Value} (hM : Makes P ops n o Y d oa g) (hp : Pend wb D H o Y I false Z w)
    (hS : ∀ w', St wb D H w' → SE E HH (listed.setIfInBounds a true) w')
    (k : ∀ b w', I w' → St wb D ((b, o, true) :: H) w' → XA P ops E HH QE n m (listed.setIfInBounds a true) (upd (g X) d (Y b)) w') :
    XS P ops (doneE P ops E HH QE n m (listed.setIfInBounds a true)) n [oa] (g X) w :=
  hM _ X w fun b w' ho hb hz => ⟨hS _ (St.call0 hp.core ho), k b w' (hp.lasts _ _ ho hp.inv) (St.adopt hp.core ho hb hz)⟩
theorem xa_pend (c a : Nat) {d ta : Nat} {opa : Op} {posa : String} {afta : Array Edge} {dc : Option Nat} {opc : Op} {tyc : Nat} {posc : String} {aftc : Array Edge} {gc : Option (Nat × Bool)} {o : Obj} {Y : Nat → Value} {I : World → Prop} {g : Value → Env} {L : Bool → Array Bool} {f : Bool} {X : Value}
    (hX : XH ops E QE n) (hp : Pend wb D H o Y I f X w) (ha : ops[a]? = some ⟨some d, opa, ta, posa, afta, none⟩) (hc : ops[c]? = some ⟨dc, opc, tyc, posc, aftc, gc⟩)
    (hM : Makes P ops n o Y d ⟨some d, opa, ta, posa, afta, none⟩ g)
    (hL : (L false).setIfInBounds a true = L true) (hr1 : Region.ready .any ops (L true) = [c]) (hr0 : (Region.ready .any ops (L false)).all (fun i => Nat.beq i c || Nat.beq i a) = true) (hr0' : (Region.ready .any ops (L false)).isEmpty = false)
    (hg : ∀ X Y, upd (g X) d Y = g Y) (hS : ∀ w', St wb D H w' → SE E HH (L true) w')
    (step : ∀ f X w, Pend wb D H o Y I f X w → XS P ops (doneE P ops E HH QE n (fl f + fuel) ((L f).setIfInBounds c true)) n [⟨dc, opc, tyc, posc, aftc, gc⟩] (g X) w) :
    XA P ops E HH QE n (fl f + (fuel + 1)) (L f) (g X) w := by
  have h1 : ∀ X w, Pend wb D H o Y I true X w → XA P ops E HH QE n (fuel + 1) (L true) (g X) w := fun X w hp => by
    have := step true X w hp
    simp only [fl, cond_true, Nat.zero_add] at this
    exact xa_do c hX hc hr1 this
  cases f with
  | true => simpa [fl] using h1 X w hp
  | false =>
    have e1 : fl false + (fuel + 1) = (fuel + 1) + 1 := by simp [fl]; omega
    rw [e1]
    intro act hf
    refine ⟨fun h0 => (by rw [h0] at hr0'; cases hr0'), fun i hi => ?_⟩
    have hi' := List.all_eq_true.1 hr0 i hi
    simp only [Bool.or_eq_true] at hi'
    rcases hi' with hi' | hi'
    · obtain rfl : i = c := Nat.eq_of_beq_eq_true hi'
      have h2 := step false X w hp
      have e2 : fl false + fuel = fuel + 1 := by simp [fl]; omega
      rw [e2] at h2
      exact xa_core i hX hc h2 act hf
    · obtain rfl : i = a := Nat.eq_of_beq_eq_true hi'
      have h2 : XS P ops (doneE P ops E HH QE n (fuel + 1) ((L false).setIfInBounds i true)) n [⟨some d, opa, ta, posa, afta, none⟩] (g X) w := by
        refine pend_made hM hp (by rw [hL]; exact hS) fun b w' hI hs' => ?_
        rw [hL, hg]
        exact h1 _ w' ⟨⟨b, rfl, hs'⟩, hI, hp.lasts⟩
      exact xa_core i hX ha h2 act hf
theorem xa_pendE (a : Nat) {d ta : Nat} {opa : Op} {posa : String} {afta : Array Edge} {o : Obj} {Y : Nat → Value} {I : World → Prop} {g : Value → Env} {L : Bool → Array Bool} {f : Bool} {X : Value}
    (hX : XH ops E QE n) (hp : Pend wb D H o Y I f X w) (ha : ops[a]? = some ⟨some d, opa, ta, posa, afta, none⟩)
    (hM : Makes P ops n o Y d ⟨some d, opa, ta, posa, afta, none⟩ g)
    (hL : (L false).setIfInBounds a true = L true) (hr0 : Region.ready .any ops (L false) = [a])
    (hg : ∀ X Y, upd (g X) d Y = g Y) (hS : ∀ w', St wb D H w' → SE E HH (L true) w')
    (k : ∀ b w', I w' → St wb D ((b, o, true) :: H) w' → XA P ops E HH QE n fuel (L true) (g (Y b)) w') :
    XA P ops E HH QE n (fl f + fuel) (L f) (g X) w := by
  cases f with
  | true =>
    obtain ⟨⟨b, rfl, hs⟩, hI, _⟩ := hp
    have := k b w hI hs
    simpa [fl] using this
  | false =>
    have e1 : fl false + fuel = fuel + 1 := by simp [fl]; omega
    rw [e1]
    refine xa_do a hX ha hr0 ?_
    refine pend_made hM hp (by rw [hL]; exact hS) fun b w' hI hs' => ?_
    rw [hL, hg]
    exact k b w' hI hs'
theorem xa_pend0 (a d : Nat) (o : Obj) (Y : Nat → Value) {listed : Array Bool} (hs : St wb D H w) (hl : listed.setIfInBounds a false = listed)
    (k : ∀ f X w, Pend wb D H o Y (fun _ => True) f X w → XA P ops E HH QE n (fl f + fuel) (listed.setIfInBounds a f) (upd env d X) w) : XA P ops E HH QE n (fuel + 1) listed env w := by
  have h := k false (env d) w ⟨hs, trivial, fun _ _ _ _ => trivial⟩
  have e1 : fl false + fuel = fuel + 1 := by simp [fl]; omega
  have e2 : upd env d (env d) = env := funext fun i => by
    by_cases e : i = d
    · subst e; rw [upd_same]
    · rw [upd_ne _ _ e]
  rwa [e1, hl, e2] at h
end
section
variable {ops : Array Oper} {E : List Nat} {H HH : List Ent} {QE : Exit → Env → World → Prop} {n : Nat} {env : Env} {w wb : World} {D : Ctx} {fuel : Nat}
theorem pgg_base {d : Nat} {X Y : Value} : upd (upd env d X) d Y = upd env d Y := funext fun i => by
  by_cases h : i = d
  · subst h; rw [upd_same, upd_same]
  · rw [upd_ne _ _ h, upd_ne _ _ h, upd_ne _ _ h]
theorem pgg_step {d t : Nat} {v Y : Value} {e1 e2 : Env} (h : upd e1 d Y = e2) (hne : Nat.beq t d = false) : upd (upd e1 t v) d Y = upd e2 t v := funext fun i => by
  have hne : t ≠ d := fun e => by rw [e, Nat.beq_refl] at hne; cases hne
  have h' := congrFun h i
  by_cases hi : i = d
  · subst hi
    rw [upd_same] at h' ⊢
    rw [upd_ne _ _ (Ne.symm hne), ← h']
  · rw [upd_ne _ _ hi] at h' ⊢
    by_cases ht : i = t
    · subst ht; rw [upd_same, upd_same]
    · rw [upd_ne _ _ ht, upd_ne _ _ ht, h']
theorem pd0 (a d : Nat) {cs : List Value} {t ty : Nat} {pos : String} {aft : Array Edge} {listed : Array Bool} (hs : St wb D H w) (ha : ops[a]? = some ⟨some d, .alloc t, ty, pos, aft, none⟩ := by exact rfl) (hz : look t tab.zs = some cs := by exact rfl) (hl : listed.setIfInBounds a false = listed := by kernel_rfl)
    (k : ∀ f X w, Pend wb D H (.cells cs.toArray t (0, 0)) (fun b => .pointer (some ⟨b, 0, none⟩)) (fun _ => True) f X w → XA Tryz.prog ops E HH QE n (fl f + fuel) (listed.setIfInBounds a f) (upd env d X) w) : XA Tryz.prog ops E HH QE n (fuel + 1) listed env w := xa_pend0 a d _ _ hs hl k
theorem pd0S (a d : Nat) (cs : List Value) {t e size bytes len ty : Nat} {parts : Array (Nat × Operand)} {pos : String} {aft : Array Edge} {listed : Array Bool} (hs : St wb D H w) (ha : ops[a]? = some ⟨some d, .buildSlice t len parts, ty, pos, aft, none⟩ := by exact rfl) (hsl : look t tab.sls = some (e, size, bytes) := by exact rfl) (hl : listed.setIfInBounds a false = listed := by kernel_rfl)
    (k : ∀ f X w, Pend wb D H (.cells cs.toArray e (0, 0)) (fun b => .slice (some ⟨b, 0, none⟩) len len) (fun _ => True) f X w → XA Tryz.prog ops E HH QE n (fl f + fuel) (listed.setIfInBounds a f) (upd env d X) w) : XA Tryz.prog ops E HH QE n (fuel + 1) listed env w := xa_pend0 a d _ _ hs hl k
theorem bsP {o : Obj} {Y : Nat → Value} {I : World → Prop} {f : Bool} {X : Value} {rest : List Oper} {d : Option Nat} {ty : Nat} {pos : String} {aft : Array Edge} {g : Option (Nat × Bool)} {t e size bytes len : Nat} {parts : Array (Nat × Operand)} {zs cs : List Value} (hp : Pend wb D H o Y I f X w) (hw : wantedE ops env g = true := by exact rfl) (hsl : look t tab.sls = some (e, size, bytes) := by exact rfl) (hz : look e tab.zs = some zs := by exact rfl) (hzl : Nat.beq zs.length size = true := by exact rfl) (hsm : Nat.ble (len * size) 16777216 = true := by exact rfl) (hps : Nat.beq (len * size) 0 = false := by exact rfl)
    (hb : Bld env (rowPl len size) (rowZ zs (len * size)) parts.toList cs := by (repeat (first | exact Bld.nil | (apply Bld.one; exact rfl; (conv => lhs; whnf); exact rfl; (repeat (first | exact PutL.nil | apply PutL.skip | apply PutL.cons))) | (apply Bld.agg; exact rfl; exact rfl; exact rfl; (repeat (first | exact PutL.nil | apply PutL.skip | apply PutL.cons))))))
    (k : ∀ b w', Only [] w w' → Pend wb D ((b, .cells cs.toArray e, true) :: H) o Y I f X w' → XS Tryz.prog ops QE n rest (updO env d (.slice (some ⟨b, 0, none⟩) len len)) w') : XS Tryz.prog ops QE n (⟨d, .buildSlice t len parts, ty, pos, aft, g⟩ :: rest) env w :=
  xs_buildSlice tabOk hw hsl hz hzl hsm hps hb (St.nil w) fun b w' _ h => k b w' (h.only0 rfl) (hp.adopt (h.only0 rfl) (h.get At.head) (h.new (b, true) (by simp) rfl))
theorem St.fresh (hs : St wb D H w) (hall : (H.all fun e => e.2.2) = true) {k : Nat} (hk : k < wb.heap.size) : k ∉ H.map (·.1) := fun hm => by
  obtain ⟨e, he, rfl⟩ := List.mem_map.1 hm
  have h1 := List.all_eq_true.1 hall e he
  have := hs.new (e.1, e.2.2) (List.mem_map.2 ⟨e, he, rfl⟩) h1
  simp only at this
  omega
theorem Pend.callN {o : Obj} {Y : Nat → Value} {I J : World → Prop} {w' : World} {F : List Nat} {f : Bool} {X : Value} (hp : Pend wb D H o Y I f X w) (ho : Only F w w') (hl : ∀ k ∈ F, k < wb.heap.size) (hall : (H.all fun e => e.2.2) = true) (hR : D.ro = []) (hJ : J w') (lJ : Lasts J) : Pend wb ⟨F ++ D.dirty, D.ro⟩ H o Y J f X w' :=
  ⟨hp.core.call ho hl (fun k hk => hp.st.fresh hall (hl k hk)) (by simp [hR]), hJ, lJ⟩
theorem St.callN {w' : World} {F : List Nat} (hs : St wb D H w) (ho : Only F w w') (hl : ∀ k ∈ F, k < wb.heap.size) (hall : (H.all fun e => e.2.2) = true) (hR : D.ro = []) : St wb ⟨F ++ D.dirty, D.ro⟩ H w' :=
  hs.call ho (fun k hk => hs.fresh hall (hl k hk)) (by simp [hR])
end
end Go.Proofs.YtdkmhjiojealoaaGreatDoorX

namespace Go.Proofs.YtdkmhjiojealoaaGreatDoorX
open Go Go.RowKit
def LsAt (w : World) (E k : Nat) (v : Value) (xs : List (List Value)) : Prop :=
  ∃ ad cap, v = .slice ad xs.length cap ∧ (xs ≠ [] → ∃ (b off : Nat) (cs : List Value) (fz : Nat × Nat), ad = some ⟨b, off, none⟩ ∧ xs.length ≤ cap ∧ w.heap[b]? = some (.cells cs.toArray E fz) ∧ ∀ (i : Nat) x, xs[i]? = some x → Pick cs (off + i * k) k x)
theorem LsAt.nil (w : World) (E k : Nat) : LsAt w E k (.slice none 0 0) [] := ⟨none, 0, rfl, fun h => absurd rfl h⟩
theorem LsAt.keep {w w' : World} {E k : Nat} {v : Value} {xs : List (List Value)} {F : List Nat} (h : LsAt w E k v xs) (ho : Only F w w') (hF : ∀ b ∈ F, ∀ cs fz, w.heap[b]? ≠ some (.cells cs E fz)) : LsAt w' E k v xs := by
  obtain ⟨ad, cap, rfl, h⟩ := h
  refine ⟨ad, cap, rfl, fun hn => ?_⟩
  obtain ⟨b, off, cs, fz, h1, h2, h3, h4⟩ := h hn
  exact ⟨b, off, cs, fz, h1, h2, ho.block h3 (fun hm => hF b hm _ _ h3), h4⟩
theorem LsAt.only {w w' : World} {E k : Nat} {v : Value} {xs : List (List Value)} (h : LsAt w E k v xs) (ho : Only [] w w') : LsAt w' E k v xs := h.keep ho (by simp)
theorem pick_of {cs : List Value} : ∀ {vs : List Value} {off m : Nat}, vs.length = m → (cs.drop off).take m = vs → Pick cs off m vs
  | [], off, m, hm, h => by subst hm; exact .nil
  | v :: vs, off, m, hm, h => by
    subst hm
    have hlt : off < cs.length := by
      rcases Nat.lt_or_ge off cs.length with h' | h'
      · exact h'
      · rw [List.drop_eq_nil_of_le h'] at h; simp at h
    rw [List.drop_eq_getElem_cons hlt] at h
    simp only [List.length_cons, List.take_succ_cons, List.cons.injEq] at h
    exact .cons (by rw [List.getElem?_eq_getElem hlt, h.1]) (pick_of rfl h.2)
theorem flat_row {k : Nat} : ∀ {xs : List (List Value)} {i : Nat} {x : List Value}, (∀ y ∈ xs, y.length = k) → xs[i]? = some x → (xs.flatten.drop (i * k)).take k = x
  | [], i, x, _, h => by simp at h
  | y :: xs, 0, x, hk, h => by
    have h1 := hk y (by simp)
    simp only [List.getElem?_cons_zero, Option.some.injEq] at h
    subst h; subst h1
    simp
  | y :: xs, i + 1, x, hk, h => by
    have h1 := hk y (by simp)
    simp only [List.getElem?_cons_succ] at h
    have ih := flat_row (fun z hz => hk z (List.mem_cons_of_mem _ hz)) h
    rw [List.flatten_cons, List.drop_append, List.drop_eq_nil_of_le (by rw [h1, Nat.succ_mul]; omega), List.nil_append, h1, Nat.succ_mul, Nat.add_sub_cancel]
    exact ih
theorem SlV.ls {w : World} {E k n : Nat} {v : Value} {flat : List Value} {G : List Nat} (h : SlV w E k v n flat G) {xs : List (List Value)} (hf : flat = xs.flatten) (hn : n = xs.length) (hk : ∀ x ∈ xs, x.length = k) : LsAt w E k v xs := by
  subst hn
  rcases h with ⟨rfl, h0, hx, _⟩ | ⟨g, cap, cur, rfl, _, hc, hl, hxl, ht, hg⟩
  · have : xs = [] := by simpa using h0
    subst this
    exact LsAt.nil w E k
  · refine ⟨_, cap, rfl, fun _ => ⟨g, 0, cur, (0, 0), rfl, hc, hg, fun i x hi => ?_⟩⟩
    have hi' : i < xs.length := by
      rcases Nat.lt_or_ge i xs.length with h | h
      · exact h
      · rw [List.getElem?_eq_none h] at hi; cases hi
    have hxk := hk x (List.mem_of_getElem? hi)
    refine pick_of hxk ?_
    have e := flat_row hk hi
    rw [← hf, ← ht, List.drop_take, List.take_take, Nat.min_eq_left] at e
    · rw [Nat.zero_add]; exact e
    · rw [← Nat.sub_mul]
      exact Nat.le_mul_of_pos_left k (by omega)
def minL : List Int → Int
  | [] => 0
  | d :: l => l.foldl (fun a b => if b < a then b else a) d
def maxL : List Int → Int
  | [] => 0
  | d :: l => l.foldl (fun a b => if b > a then b else a) d
theorem minL_snoc (l : List Int) (d : Int) : minL (l ++ [d]) = if l = [] then d else if d < minL l then d else minL l := by
  cases l with
  | nil => rfl
  | cons a l => exact (List.foldl_append ..)
theorem maxL_snoc (l : List Int) (d : Int) : maxL (l ++ [d]) = if l = [] then d else if d > maxL l then d else maxL l := by
  cases l with
  | nil => rfl
  | cons a l => exact (List.foldl_append ..)
section
variable {ops : Array Oper} {QE : Exit → Env → World → Prop} {n : Nat} {rest : List Oper} {env : Env} {w wb : World} {d : Option Nat} {ty : Nat} {pos : String} {aft : Array Edge} {g : Option (Nat × Bool)}
theorem lhK {t b off m : Nat} {x : Operand} {cs vs : List Value} {E : TypeId} {fr : Nat × Nat} (hb : w.heap[b]? = some (.cells cs.toArray E fr)) (hc : Pick cs off (m + 1) vs) (hw : wantedE ops env g = true := by exact rfl) (ht : look t tab.tks = some (true, m + 1) := by exact rfl)
    (hp : ev env x = .pointer (some ⟨b, off, none⟩) := by exact rfl)
    (k : XS Tryz.prog ops QE n rest (updO env d (.agg vs.toArray)) w) : XS Tryz.prog ops QE n (⟨d, .load t x, ty, pos, aft, g⟩ :: rest) env w :=
  xs_val hw (by simp [execOp, hp, Instr.loadAt, Instr.sureAddr, Sem.run_bind, run_loadVar_agg (tabOk.tk ht) hb hc.le, hc.eq.2]) k
end
end Go.Proofs.YtdkmhjiojealoaaGreatDoorX

namespace Go.Proofs.YtdkmhjiojealoaaGreatDoorX
open Go Go.RowKit
attribute [local irreducible] XS XC XA thenE blockE retE loopE loopS cutB cutN doneE SE
theorem split32 (x : Int) : x = x / 4294967296 * 4294967296 + x % 4294967296 := by omega
theorem mul_bound {a b m : Int} (ha : 0 ≤ a) (ha' : a ≤ m) (hb : 0 ≤ b) (hb' : b ≤ m) : 0 ≤ a * b ∧ a * b ≤ m * m :=
  ⟨Int.mul_nonneg ha hb, Int.mul_le_mul ha' hb' hb (Int.le_trans ha ha')⟩
theorem pairU_ok {a b c d : Int} (h1 : a = c) (h2 : b = d) : packed [Value.int .u64 a, .int .u64 b] = .tuple #[.int .u64 c, .int .u64 d] := by rw [h1, h2]; rfl
set_option maxHeartbeats 400000 in
theorem mul64_ret (x y : Int) (hx0 : 0 ≤ x) (hx1 : x < 18446744073709551616) (hy0 : 0 ≤ y) (hy1 : y < 18446744073709551616) (w0 : World) :
    Ret Tryz.prog 126 #[.int .u64 x, .int .u64 y] w0 fun v w' => v = .tuple #[.int .u64 (x * y / 18446744073709551616), .int .u64 (x * y % 18446744073709551616)] ∧ Only [] w0 w' := by
  have hs := St.nil w0
  refine ret_of_xc Tryz.func126 (by kernel_rfl) rfl Tryz.ntmps126 rfl rfl rfl ?_
  repeat' (first|refine vs (k:=?_)|refine qRg ?_|refine Nx.h ?_|fail)
  first | refine rt (hq := ?_) | refine rt' (hq := ?_)
  refine ⟨?_, hs.only0 rfl⟩
  clear hs
  have h1 := split32 x
  have h2 := split32 y
  have a0 := Int.emod_nonneg x (show (4294967296 : Int) ≠ 0 by decide)
  have a0' := Int.emod_lt_of_pos x (show (0 : Int) < 4294967296 by decide)
  have b0 := Int.emod_nonneg y (show (4294967296 : Int) ≠ 0 by decide)
  have b0' := Int.emod_lt_of_pos y (show (0 : Int) < 4294967296 by decide)
  have a1 : 0 ≤ x / 4294967296 ∧ x / 4294967296 ≤ 4294967295 := by omega
  have b1 : 0 ≤ y / 4294967296 ∧ y / 4294967296 ≤ 4294967295 := by omega
  simp only [wrap_u64]
  generalize x / 4294967296 = p at *
  generalize x % 4294967296 = q at *
  generalize y / 4294967296 = r at *
  generalize y % 4294967296 = s at *
  have key : x * y = p * r * 18446744073709551616 + (p * s + q * r) * 4294967296 + q * s := by grind
  have k1 := mul_bound a1.1 a1.2 b1.1 b1.2
  have k2 := mul_bound a1.1 a1.2 b0 (show s ≤ 4294967295 by omega)
  have k3 := mul_bound a0 (show q ≤ 4294967295 by omega) b1.1 b1.2
  have k4 := mul_bound a0 (show q ≤ 4294967295 by omega) b0 (show s ≤ 4294967295 by omega)
  generalize x * y = z at *
  generalize p * r = e1 at *
  generalize p * s = e2 at *
  generalize q * r = e3 at *
  generalize q * s = e4 at *
  clear h1 h2 a0 a0' b0 b0' a1 b1 hx0 hx1 hy0 hy1
  refine pairU_ok ?_ ?_ <;> omega
def sgn (s : Int) : Int := if s < 170141183460469231731687303715884105728 then s else s - 340282366920938463463374607431768211456
theorem sgn_in {s : Int} (h0 : 0 ≤ s) (h1 : s < 340282366920938463463374607431768211456) : InW (sgn s) := by unfold sgn InW; split <;> omega
theorem agg_sgn {s hi lo : Int} (h0 : 0 ≤ s) (h1 : s < 340282366920938463463374607431768211456) (h2 : hi = s / 18446744073709551616) (h3 : lo = s % 18446744073709551616) : Value.agg #[.int .i64 (IntKind.i64.wrap hi), .int .u64 lo] = wv (sgn s) := by
  subst h2 h3
  simp only [wrap_i64]
  unfold sgn
  split <;> refine agg_ok ?_ ?_ <;> omega
theorem flip_of {v : Value} {x : Int} (hv : v = wv x) (hx : InW x) (w0 : World) : Ret Tryz.prog 79 #[v] w0 fun v w' => v = wv (negW x) ∧ Only [] w0 w' := by subst hv; exact flip_ret x hx w0
theorem signed_ret (s : Int) (h0 : 0 ≤ s) (h1 : s < 340282366920938463463374607431768211456) (neg : Bool) (w0 : World) :
    Ret Tryz.prog 127 #[.int .u64 (s / 18446744073709551616), .int .u64 (s % 18446744073709551616), .bool neg] w0 fun v w' => v = tellV (bif neg then -s else s) ∧ Only [] w0 w' := by
  have hs := St.nil w0
  cases neg
  · refine ret_of_xc Tryz.func127 (by kernel_rfl) rfl Tryz.ntmps127 rfl rfl rfl ?_
    repeat' (first|refine vs (k:=?_)|refine ps (k:=?_)|(refine stA hs (k:=?_);intro w hs)|(refine al hs (k:=?_);intro b w hz hs)|refine qRg ?_|refine Nx.h ?_|refine qCf ?_|(refine xc_if rfl (fun hc=>?_) (fun hc=>?_))|fail)
    all_goals (first | refine rt (hq := ?_) | refine rt' (hq := ?_))
    all_goals refine ⟨?_, hs.only0 rfl⟩
    all_goals clear hs
    all_goals simp only [wrap_i64, cond_false]
    · refine tell_ok ?_ ?_ ?_
      all_goals (try unfold InW)
      all_goals omega
    · refine tell_no ?_
      unfold InW
      omega
  · refine ret_of_xc Tryz.func127 (by kernel_rfl) rfl Tryz.ntmps127 rfl rfl rfl ?_
    repeat' (first|refine vs (k:=?_)|refine ps (k:=?_)|(refine stA hs (k:=?_);intro w hs)|(refine al hs (k:=?_);intro b w hz hs)|refine qRg ?_|refine Nx.h ?_|refine qCt ?_|refine qCf ?_|((with_reducible apply xs_guard);exact rfl;exact rfl;intro c hc;(fail_if_success have:true=c:=hc);(fail_if_success have:false=c:=hc);cases c)|(refine xc_if rfl (fun hc=>?_) (fun hc=>?_))|fail)
    all_goals try ((with_reducible apply xs_call); exact rfl; exact rfl; exact flip_of (agg_sgn h0 h1 rfl rfl) (sgn_in h0 h1) _; rintro v w' ⟨rfl, ho⟩; replace hs := hs.call0 ho; repeat' (first|refine vs (k:=?_)|(refine stA hs (k:=?_);intro w hs)|refine Nx.h ?_|fail))
    all_goals (first | refine rt (hq := ?_) | refine rt' (hq := ?_))
    all_goals refine ⟨?_, hs.only0 rfl⟩
    all_goals clear hs
    all_goals simp only [cond_true, negW, sgn]
    all_goals simp at *
    all_goals first
      | (refine tell_no ?_; unfold InW; omega)
      | (refine tell_ok ?_ ?_ ?_ <;> (try unfold InW) <;> (try split) <;> (try split) <;> omega)
theorem sizeV_eq (x : Int) : sizeV x = .tuple #[.int .u64 ((if x < 0 then -x else x) / 18446744073709551616), .int .u64 ((if x < 0 then -x else x) % 18446744073709551616)] := rfl
theorem cmp_ret (x y : Int) (hx : InW x) (hy : InW y) (w0 : World) : Ret Tryz.prog 37 #[wv x, wv y] w0 fun v w' => v = .int .i64 (cmpI x y) ∧ Only [] w0 w' := by
  obtain ⟨hx1, hx2⟩ := hx
  obtain ⟨hy1, hy2⟩ := hy
  have hs := St.nil w0
  refine ret_of_xc Tryz.func37 (by kernel_rfl) rfl Tryz.ntmps37 rfl rfl rfl ?_
  repeat' (first|refine vs (k:=?_)|(refine bx hs (k:=?_);intro b w hz hs)|refine qRg ?_|refine Nx.h ?_|fail)
  refine dr [] hs (k := ?_); intro hX w hs
  refine tk 0 hX (k := ?_)
  refine tk 1 hX (k := ?_)
  refine tk 2 hX (k := ?_)
  refine tk 3 hX (k := ?_)
  refine tk 5 hX (k := ?_)
  refine tk 6 hX (k := ?_)
  refine tk 7 hX (k := ?_)
  refine tk 8 hX (k := ?_)
  refine dt 4 hX (k := ?_)
  (with_reducible apply xs_call); exact rfl; exact rfl; exact compareS_ret _ _ _
  rintro v w' ⟨rfl, ho⟩; replace hs := hs.call0 ho
  repeat' (first|refine Nx.h ?_|fail)
  refine dn (k := ?_)
  refine dt 9 hX (k := ?_)
  (with_reducible apply xs_call); exact rfl; exact rfl; exact compareU_ret _ _ _
  rintro v w' ⟨rfl, ho⟩; replace hs := hs.call0 ho
  repeat' (first|refine Nx.h ?_|fail)
  refine dn (k := ?_)
  refine dt 10 hX (k := ?_)
  repeat' (first|(refine bs hs (k:=?_);intro b w hz hs)|refine Nx.h ?_|fail)
  refine dn (k := ?_)
  refine dt 11 hX (k := ?_)
  (with_reducible apply xs_call); exact rfl; exact rfl; exact or_ret _ _ _ _ _ (hs.get At.head)
  rintro v w' ⟨rfl, ho⟩; replace hs := hs.call0 ho
  repeat' (first|refine Nx.h ?_|fail)
  refine dn (k := ?_)
  refine tk 12 hX (k := ?_)
  refine en (k := ?_)
  repeat' (first|refine Nx.h ?_|fail)
  first | refine rt (hq := ?_) | refine rt' (hq := ?_)
  refine ⟨?_, hs.only0 rfl⟩
  clear hs
  have : (if cmpI (x / 18446744073709551616) (y / 18446744073709551616) = 0 then cmpI (x % 18446744073709551616) (y % 18446744073709551616) else cmpI (x / 18446744073709551616) (y / 18446744073709551616)) = cmpI x y := by
    unfold cmpI
    repeat' split
    all_goals omega
  rw [this]
  rfl
theorem sign_ret (x : Int) (hx : InW x) (w0 : World) : Ret Tryz.prog 19 #[wv x] w0 fun v w' => v = .int .i64 (cmpI x 0) ∧ Only [] w0 w' := by
  have hs := St.nil w0
  refine ret_of_xc Tryz.func19 (by kernel_rfl) rfl Tryz.ntmps19 rfl rfl rfl ?_
  repeat' (first|refine vs (k:=?_)|(refine bx hs (k:=?_);intro b w hz hs)|refine qRg ?_|refine Nx.h ?_|fail)
  (with_reducible apply xs_call); exact rfl; exact rfl; exact cmp_ret x 0 hx (by decide) _
  rintro v w' ⟨rfl, ho⟩; replace hs := hs.call0 ho
  repeat' (first|refine vs (k:=?_)|refine Nx.h ?_|fail)
  first | refine rt (hq := ?_) | refine rt' (hq := ?_)
  exact ⟨rfl, hs.only0 rfl⟩
def Abs (x X : Int) : Prop := 0 ≤ X ∧ (x < 0 ∧ x = -X ∨ 0 ≤ x ∧ x = X)
theorem abs_ex (x : Int) : ∃ X, Abs x X := by
  rcases Int.lt_or_le x 0 with h | h
  · exact ⟨-x, by omega, .inl (by omega)⟩
  · exact ⟨x, by omega, .inr (by omega)⟩
theorem size_of {x X : Int} (hx : InW x) (h : Abs x X) (w0 : World) : Ret Tryz.prog 76 #[wv x] w0 fun v w' => v = .tuple #[.int .u64 (X / 18446744073709551616), .int .u64 (X % 18446744073709551616)] ∧ Only [] w0 w' := by
  have := size_ret x hx w0
  unfold sizeV at this
  have e : (if x < 0 then -x else x) = X := by obtain ⟨h1, h2⟩ := h; split <;> omega
  rw [e] at this
  exact this
theorem signed_of {hi lo : Int} (s : Int) (h0 : 0 ≤ s) (h1 : s < 340282366920938463463374607431768211456) (h2 : hi = s / 18446744073709551616) (h3 : lo = s % 18446744073709551616) (neg : Bool) (w0 : World) :
    Ret Tryz.prog 127 #[.int .u64 hi, .int .u64 lo, .bool neg] w0 fun v w' => v = tellV (bif neg then -s else s) ∧ Only [] w0 w' := by subst h2 h3; exact signed_ret s h0 h1 neg w0
theorem tellV_shape (s : Int) : ∃ t b, tellV s = .tuple #[wv t, .bool b] ∧ packed [wv t, .bool b] = tellV s := by
  unfold tellV
  split
  · exact ⟨_, _, rfl, rfl⟩
  · exact ⟨_, _, rfl, rfl⟩
set_option maxHeartbeats 400000 in
theorem mul_ret (x n : Int) (hx : InW x) (hn0 : -9223372036854775808 ≤ n) (hn1 : n < 9223372036854775808) (w0 : World) : Ret Tryz.prog 112 #[wv x, .int .i64 n] w0 fun v w' => v = tellV (x * n) ∧ Only [] w0 w' := by
  have hx' := hx
  obtain ⟨hx1, hx2⟩ := hx
  have hs := St.nil w0
  obtain ⟨X, hX⟩ := abs_ex x
  obtain ⟨N, hN⟩ := abs_ex n
  have hX0 := hX
  have hN0 := hN
  obtain ⟨hX1, hX2⟩ := hX
  obtain ⟨hN1, hN2⟩ := hN
  have hNN : N % 18446744073709551616 = N := by omega
  have b1 := mul_bound (a := X / 18446744073709551616) (b := N) (m := 9223372036854775808) (by omega) (by omega) (by omega) (by omega)
  have b2 : 0 ≤ X % 18446744073709551616 * N ∧ X % 18446744073709551616 * N ≤ 18446744073709551615 * 9223372036854775808 := ⟨Int.mul_nonneg (by omega) (by omega), Int.mul_le_mul (by omega) (by omega) (by omega) (by omega)⟩
  refine ret_of_xc Tryz.func112 (by kernel_rfl) rfl Tryz.ntmps112 rfl rfl rfl ?_
  repeat' (first|refine vs (k:=?_)|(refine al hs (k:=?_);intro b w hz hs)|(refine bx hs (k:=?_);intro b w hz hs)|refine qRg ?_|refine Nx.h ?_|fail)
  (with_reducible apply xs_call); exact rfl; exact rfl; exact size_of hx' hX0 _
  rintro v w' ⟨rfl, ho⟩; replace hs := hs.call0 ho
  repeat' (first|refine vs (k:=?_)|refine qRg ?_|refine Nx.h ?_|fail)
  (with_reducible apply xs_call); exact rfl; exact rfl; exact of_ret n hn0 hn1 _
  rintro v w' ⟨rfl, ho⟩; replace hs := hs.call0 ho
  skip
  (with_reducible apply xs_call); exact rfl; exact rfl; exact size_of (by unfold InW; omega) hN0 _
  rintro v w' ⟨rfl, ho⟩; replace hs := hs.call0 ho
  rw [hNN]
  repeat' (first|refine vs (k:=?_)|refine qRg ?_|refine Nx.h ?_|fail)
  (with_reducible apply xs_call); exact rfl; exact rfl; exact mul64_ret _ _ (by omega) (by omega) (by omega) (by omega) _
  rintro v w' ⟨rfl, ho⟩; replace hs := hs.call0 ho
  repeat' (first|refine vs (k:=?_)|refine qRg ?_|refine Nx.h ?_|fail)
  (with_reducible apply xs_call); exact rfl; exact rfl; exact mul64_ret _ _ (by omega) (by omega) (by omega) (by omega) _
  rintro v w' ⟨rfl, ho⟩; replace hs := hs.call0 ho
  repeat' (first|refine vs (k:=?_)|refine qRg ?_|refine Nx.h ?_|fail)
  (with_reducible apply xs_call); exact rfl; exact rfl; exact add64_ret _ _ _ (by omega) (by omega) (by omega) (by omega) _
  rintro v w' ⟨rfl, rfl⟩
  have key : X * N = X / 18446744073709551616 * N * 18446744073709551616 + X % 18446744073709551616 * N := by
    have : X = X / 18446744073709551616 * 18446744073709551616 + X % 18446744073709551616 := by omega
    generalize X / 18446744073709551616 = p at *
    generalize X % 18446744073709551616 = q at *
    grind
  have hneg : x * n = (bif (decide (x / 18446744073709551616 < 0) != decide (n < 0)) then -(X * N) else X * N) := by
    rcases hX2 with ⟨h1, h2⟩ | ⟨h1, h2⟩ <;> rcases hN2 with ⟨h3, h4⟩ | ⟨h3, h4⟩
    · rw [decide_eq_true (show x / 18446744073709551616 < 0 by omega), decide_eq_true h3, h2, h4]; simp [Int.neg_mul, Int.mul_neg]
    · rw [decide_eq_true (show x / 18446744073709551616 < 0 by omega), decide_eq_false (show ¬ n < 0 by omega), h2, h4]; simp [Int.neg_mul, Int.mul_neg]
    · rw [decide_eq_false (show ¬ x / 18446744073709551616 < 0 by omega), decide_eq_true h3, h2, h4]; simp [Int.neg_mul, Int.mul_neg]
    · rw [decide_eq_false (show ¬ x / 18446744073709551616 < 0 by omega), decide_eq_false (show ¬ n < 0 by omega), h2, h4]; simp [Int.neg_mul, Int.mul_neg]
  generalize X / 18446744073709551616 * N = p1 at *
  generalize X % 18446744073709551616 * N = p2 at *
  repeat' (first|refine vs (k:=?_)|refine ps (k:=?_)|(refine stA hs (k:=?_);intro w hs)|refine qRg ?_|refine Nx.h ?_|refine qCt ?_|((with_reducible apply xs_guard);exact rfl;exact rfl;intro c hc;(fail_if_success have:true=c:=hc);(fail_if_success have:false=c:=hc);cases c)|(refine xc_cond rfl (fun hc=>?_) (fun hc=>?_))|fail)
  all_goals simp only [bne_iff_ne, ne_eq, bne_eq_false_iff_eq] at *
  · first | refine rt (hq := ?_) | refine rt' (hq := ?_)
    refine ⟨?_, hs.only0 rfl⟩
    clear hs
    refine tell_no ?_
    rw [hneg]
    unfold InW
    cases (decide (x / 18446744073709551616 < 0) != decide (n < 0)) <;> simp only [cond_true, cond_false] <;> omega
  · (with_reducible apply xs_call); exact rfl; exact rfl; exact signed_of (X * N) (by omega) (by omega) (by omega) (by omega) _ _
    rintro v w' ⟨rfl, ho⟩; replace hs := hs.call0 ho
    obtain ⟨t, b', e1, e2⟩ := tellV_shape (bif decide (x / 18446744073709551616 < 0) != decide (n < 0) then -(X * N) else X * N)
    rw [e1]
    repeat' (first|refine vs (k:=?_)|(refine stA hs (k:=?_);intro w hs)|refine Nx.h ?_|fail)
    first | refine rt (hq := ?_) | refine rt' (hq := ?_)
    exact ⟨e2.trans (by rw [hneg]), hs.only0 rfl⟩
  · first | refine rt (hq := ?_) | refine rt' (hq := ?_)
    refine ⟨?_, hs.only0 rfl⟩
    clear hs
    refine tell_no ?_
    rw [hneg]
    unfold InW
    cases (decide (x / 18446744073709551616 < 0) != decide (n < 0)) <;> simp only [cond_true, cond_false] <;> omega
end Go.Proofs.YtdkmhjiojealoaaGreatDoorX

namespace Go.Proofs.YtdkmhjiojealoaaGreatDoorX
structure Kd (u v c d y q r : Int) : Prop where
  sum : q * c + r = u
  q0 : 0 ≤ q
  q1 : q ≤ 4294967297
  r0 : 0 ≤ r
  r1 : r < 4294967296
  up : u * 4294967296 + v < (q + 1) * y
structure KdOk (u v c d y : Int) : Prop where
  y_eq : y = c * 4294967296 + d
  c0 : 2147483648 ≤ c
  c1 : c < 4294967296
  d0 : 0 ≤ d
  d1 : d < 4294967296
  u0 : 0 ≤ u
  u1 : u < y
  v0 : 0 ≤ v
  v1 : v < 4294967296
def KdFin (u v y q : Int) : Prop := 0 ≤ q ∧ q * y ≤ u * 4294967296 + v ∧ u * 4294967296 + v < (q + 1) * y
variable {u v c d y q r : Int}
theorem kd_init (h : KdOk u v c d y) : Kd u v c d y (u / c) (u - u / c * c) := by
  obtain ⟨hy, c0, c1, d0, d1, u0, u1, v0, v1⟩ := h
  have hm := Int.mul_ediv_add_emod u c
  have h1 := Int.emod_nonneg u (show c ≠ 0 by omega)
  have h2 := Int.emod_lt_of_pos u (show 0 < c by omega)
  have h3 : 0 ≤ u / c := Int.ediv_nonneg u0 (by omega)
  have h4 : u / c * c = c * (u / c) := Int.mul_comm _ _
  generalize u / c = q at *
  generalize u % c = m at *
  have hq : q ≤ 4294967297 := by
    rcases Int.lt_or_le q 4294967298 with h | h
    · omega
    · have : c * 4294967298 ≤ c * q := Int.mul_le_mul_of_nonneg_left h (by omega)
      omega
  refine ⟨by omega, h3, hq, by omega, by omega, ?_⟩
  have e : (q + 1) * y = (c * q + c) * 4294967296 + (q + 1) * d := by subst hy; grind
  have : 0 ≤ (q + 1) * d := Int.mul_nonneg (by omega) d0
  omega
theorem kd_stop (h : KdOk u v c d y) (k : Kd u v c d y q r) (h2 : q * d ≤ 4294967296 * r + v) : KdFin u v y q := by
  obtain ⟨hy, c0, c1, d0, d1, u0, u1, v0, v1⟩ := h
  obtain ⟨s, q0, q1, r0, r1, up⟩ := k
  have e : q * y = q * c * 4294967296 + q * d := by subst hy; grind
  exact ⟨q0, by omega, up⟩
theorem kd_step (h : KdOk u v c d y) (k : Kd u v c d y q r) (h2 : 4294967296 ≤ q ∨ 4294967296 * r + v < q * d) :
    1 ≤ q ∧ (r + c < 4294967296 → Kd u v c d y (q - 1) (r + c)) ∧ (4294967296 ≤ r + c → KdFin u v y (q - 1)) := by
  obtain ⟨hy, c0, c1, d0, d1, u0, u1, v0, v1⟩ := h
  obtain ⟨s, q0, q1, r0, r1, up⟩ := k
  have hq : 1 ≤ q := by
    rcases h2 with h2 | h2
    · omega
    · rcases Int.lt_or_le q 1 with h | h
      · have : q = 0 := by omega
        subst this; omega
      · exact h
  have e : q * y = q * c * 4294967296 + q * d := by subst hy; grind
  have hup : u * 4294967296 + v < q * y := by
    rcases h2 with h2 | h2
    · have : 4294967296 * y ≤ q * y := Int.mul_le_mul_of_nonneg_right h2 (by omega)
      omega
    · omega
  have e1 : (q - 1) * c + (r + c) = u := by rw [Int.sub_mul]; omega
  refine ⟨hq, fun hr => ⟨e1, by omega, by omega, by omega, hr, by rw [show q - 1 + 1 = q by omega]; exact hup⟩, fun hr => ⟨by omega, ?_, by rw [show q - 1 + 1 = q by omega]; exact hup⟩⟩
  have e2 : (q - 1) * y = (q - 1) * c * 4294967296 + (q - 1) * d := by subst hy; grind
  have : (q - 1) * d ≤ 4294967296 * 4294967295 := Int.mul_le_mul (by omega) (by omega) d0 (by omega)
  omega
theorem kd_fin (h : KdOk u v c d y) (k : KdFin u v y q) : q = (u * 4294967296 + v) / y ∧ q < 4294967296 ∧ u * 4294967296 + v - q * y = (u * 4294967296 + v) % y ∧ 0 ≤ u * 4294967296 + v - q * y ∧ u * 4294967296 + v - q * y < y := by
  obtain ⟨hy, c0, c1, d0, d1, u0, u1, v0, v1⟩ := h
  obtain ⟨q0, k1, k2⟩ := k
  have hy0 : 0 < y := by omega
  have e : (q + 1) * y = q * y + y := by rw [Int.add_mul, Int.one_mul]
  have h1 : 0 ≤ u * 4294967296 + v - q * y := by omega
  have h2 : u * 4294967296 + v - q * y < y := by omega
  have hq : q = (u * 4294967296 + v) / y := by
    have : u * 4294967296 + v = (u * 4294967296 + v - q * y) + q * y := by omega
    rw [this, Int.add_mul_ediv_right _ _ (by omega), Int.ediv_eq_zero_of_lt h1 h2]; omega
  refine ⟨hq, ?_, ?_, h1, h2⟩
  · rcases Int.lt_or_le q 4294967296 with h | h
    · exact h
    · have : 4294967296 * y ≤ q * y := Int.mul_le_mul_of_nonneg_right h (by omega)
      omega
  · have := Int.mul_ediv_add_emod (u * 4294967296 + v) y
    rw [← hq, Int.mul_comm] at this
    omega
theorem kd_end {T y P Y Q R : Int} (hP : 0 < P) (hy : 0 < y) (hY : y * P = Y) (h : T * P = Q * Y + R) (h0 : 0 ≤ R) (h1 : R < Y) : Q = T / y ∧ R / P = T % y := by
  subst hY
  have h2 : R = (T - Q * y) * P := by grind
  have h3 : R / P = T - Q * y := by rw [h2, Int.mul_ediv_cancel _ (by omega)]
  have h4 : 0 ≤ T - Q * y := by rw [← h3]; exact Int.ediv_nonneg h0 (by omega)
  have h5 : T - Q * y < y := by
    rw [h2] at h1
    exact Int.lt_of_mul_lt_mul_right h1 (by omega)
  have hq : Q = T / y := by
    have : T = (T - Q * y) + Q * y := by omega
    rw [this, Int.add_mul_ediv_right _ _ (by omega), Int.ediv_eq_zero_of_lt h4 h5]; omega
  refine ⟨hq, ?_⟩
  rw [h3, hq]
  have := Int.mul_ediv_add_emod T y
  rw [Int.mul_comm] at this
  omega
theorem kd_open {hi lo y P Q : Int} (hP : 0 < P) (hQ : 0 < Q) (hPQ : P * Q = 18446744073709551616) (h0 : 0 ≤ hi) (h1 : hi < y) (h2 : 0 ≤ lo) (h3 : lo < 18446744073709551616) :
    0 ≤ lo / Q ∧ lo / Q < P ∧ hi * P + lo / Q < y * P ∧ (hi * 18446744073709551616 + lo) * P = (hi * P + lo / Q) * 18446744073709551616 + lo * P % 18446744073709551616 := by
  have e1 := Int.mul_ediv_add_emod lo Q
  have e2 := Int.emod_nonneg lo (show Q ≠ 0 by omega)
  have e3 := Int.emod_lt_of_pos lo hQ
  have e4 : 0 ≤ lo / Q := Int.ediv_nonneg h2 (by omega)
  have e5 : lo / Q < P := by rw [Int.ediv_lt_iff_lt_mul hQ, hPQ]; exact h3
  have e6 : hi * P + P ≤ y * P := by
    have : (hi + 1) * P ≤ y * P := Int.mul_le_mul_of_nonneg_right (by omega) (by omega)
    rw [Int.add_mul, Int.one_mul] at this
    exact this
  refine ⟨e4, e5, by omega, ?_⟩
  have e7 : lo * P = lo / Q * 18446744073709551616 + lo % Q * P := by
    generalize lo / Q = B at *
    generalize lo % Q = C at *
    rw [← hPQ, ← e1]; grind
  have e8 : lo % Q * P < 18446744073709551616 := by
    have := Int.mul_lt_mul_of_pos_right e3 hP
    rw [Int.mul_comm Q P, hPQ] at this
    exact this
  have e9 : 0 ≤ lo % Q * P := Int.mul_nonneg e2 (by omega)
  have e10 : (hi * 18446744073709551616 + lo) * P = hi * P * 18446744073709551616 + lo * P := by grind
  rw [e10, e7]
  generalize lo / Q = B at *
  generalize lo % Q * P = C at *
  generalize hi * P = A at *
  omega
/-! ### Bits -/
def len8 (k : Nat) : Nat := if k = 0 then 0 else Nat.log2 k + 1
set_option maxRecDepth 100000 in
theorem len8_ok : ∀ k < 256, k < 2 ^ len8 k ∧ (0 < k → 2 ^ len8 k ≤ 2 * k) ∧ len8 k ≤ 8 := by decide
def BitLen (x L : Int) (m : Nat) : Prop := ∃ l : Nat, L = l ∧ l ≤ m ∧ x < 2 ^ l ∧ (0 < x → (2 : Int) ^ l ≤ 2 * x)
theorem bl_8 {x : Int} (h0 : 0 ≤ x) (h1 : x < 256) : BitLen x ((len8 x.toNat : Nat) : Int) 8 := by
  obtain ⟨n, rfl⟩ := Int.eq_ofNat_of_zero_le h0
  obtain ⟨h2, h3, h4⟩ := len8_ok n (by omega)
  refine ⟨_, rfl, h4, ?_, fun h => ?_⟩
  · simpa using (by exact_mod_cast h2 : ((n : Nat) : Int) < ((2 ^ len8 n : Nat) : Int))
  · have := h3 (by omega)
    simpa using (by exact_mod_cast this : ((2 ^ len8 n : Nat) : Int) ≤ ((2 * n : Nat) : Int))
theorem bl_shift {x L : Int} {m : Nat} (k : Nat) {p : Int} (hp : (2 : Int) ^ k = p) (h : BitLen (x / p) L m) (hx : 0 < x / p) : BitLen x (L + k) (m + k) := by
  obtain ⟨l, rfl, h1, h2, h3⟩ := h
  have hp0 : 0 < p := by rw [← hp]; exact Int.pow_pos (by decide)
  have h3 := h3 hx
  have hx0 : 0 < x := by
    rcases Int.lt_or_le 0 x with h | h
    · exact h
    · have := Int.ediv_le_ediv hp0 h
      simp at this
      omega
  refine ⟨l + k, by simp, by omega, ?_, fun _ => ?_⟩
  · rw [Int.pow_add, hp]
    exact (Int.ediv_lt_iff_lt_mul hp0).1 h2
  · rw [Int.pow_add, hp]
    have h5 := Int.mul_ediv_add_emod x p
    have h6 := Int.emod_nonneg x (show p ≠ 0 by omega)
    have h7 : (2 : Int) ^ l * p ≤ 2 * (x / p) * p := Int.mul_le_mul_of_nonneg_right h3 (by omega)
    have h8 : 2 * (x / p) * p = 2 * (p * (x / p)) := by grind
    omega
theorem BitLen.mono {x L : Int} {m m' : Nat} (h : BitLen x L m) (hm : m ≤ m') : BitLen x L m' := by
  obtain ⟨l, h0, h1, h2⟩ := h
  exact ⟨l, h0, by omega, h2⟩
end Go.Proofs.YtdkmhjiojealoaaGreatDoorX
