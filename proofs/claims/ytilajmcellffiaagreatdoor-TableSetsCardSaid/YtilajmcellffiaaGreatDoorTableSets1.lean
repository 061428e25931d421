/- Proved: law20.TableSets returns true for every room, every slice of acts and every task, and its arguments read as before; no conditions -/
import Derived.Test.YtilajmcellffiaaGreatDoorB10
import Derived.Deep.SlicePairs
import Derived.Deep.Slices
import Derived.Test.YtilajmcellffiaaGreatDoorCards
import Derived.SevenTiedAt
set_option linter.unusedVariables false
set_option linter.unusedSimpArgs false
set_option maxRecDepth 100000
namespace Go.Proofs.YtilajmcellffiaaGreatDoorX
open Go Go.RowKit Go.ChangeShapes Go.WideShapes Go.ChangeAt
theorem rng_i64 {x : Int} (h : Lit.wf (.int .i64 x) = true) : In64 x := by
  have h : IntKind.i64.min ≤ x ∧ x ≤ IntKind.i64.max := by simpa [Lit.wf] using h
  have e1 : IntKind.i64.min = -9223372036854775808 := rfl
  have e2 : IntKind.i64.max = 9223372036854775807 := rfl
  unfold In64; omega
theorem rng_u64 {x : Int} (h : Lit.wf (.int .u64 x) = true) : U64 x := by
  have h : IntKind.u64.min ≤ x ∧ x ≤ IntKind.u64.max := by simpa [Lit.wf] using h
  have e1 : IntKind.u64.min = 0 := rfl
  have e2 : IntKind.u64.max = 18446744073709551615 := rfl
  unfold U64; omega
end Go.Proofs.YtilajmcellffiaaGreatDoorX

namespace Go.Proofs.YtilajmcellffiaaGreatDoorX
open Go Go.RowKit Go.ChangeShapes Go.WideShapes Go.ChangeAt
theorem cell_block {w : World} {a : Addr} {v : Value} (h : w.cell? a = some v) : ∃ cs E fz, w.heap[a.block]? = some (.cells cs E fz) ∧ a.spot = none ∧ cs[a.off]? = some v := by
  unfold World.cell? at h
  split at h
  · rename_i cs E fz hb
    split at h
    · cases h
    · rename_i hs
      exact ⟨cs, E, fz, hb, by simpa using hs, h⟩
  · cases h
theorem cell_of_block {w : World} {a : Addr} {v : Value} {cs : Array Value} {E : TypeId} {fz : Nat × Nat} (h : w.cell? a = some v) (hb : w.heap[a.block]? = some (.cells cs E fz)) : cs[a.off]? = some v := by
  obtain ⟨cs', E', fz', h1, _, h2⟩ := cell_block h
  rw [hb] at h1
  cases h1
  exact h2
theorem addr_add (b o k : Nat) : (⟨b, o, none⟩ : Addr).add k = ⟨b, o + k, none⟩ := by
  unfold Addr.add
  split <;> simp_all
end Go.Proofs.YtilajmcellffiaaGreatDoorX

namespace Go.Proofs.YtilajmcellffiaaGreatDoorX
open Go Go.RowKit Go.ChangeShapes Go.WideShapes Go.ChangeAt
theorem rng_u8 {x : Int} (h : Lit.wf (.int .u8 x) = true) : 0 ≤ x ∧ x < 256 := by
  have h : IntKind.u8.min ≤ x ∧ x ≤ IntKind.u8.max := by simpa [Lit.wf] using h
  have e1 : IntKind.u8.min = 0 := rfl
  have e2 : IntKind.u8.max = 255 := rfl
  omega
theorem rng_u32 {x : Int} (h : Lit.wf (.int .u32 x) = true) : 0 ≤ x ∧ x < 4294967296 := by
  have h : IntKind.u32.min ≤ x ∧ x ≤ IntKind.u32.max := by simpa [Lit.wf] using h
  have e1 : IntKind.u32.min = 0 := rfl
  have e2 : IntKind.u32.max = 4294967295 := rfl
  omega
theorem pick_at {cs : List Value} : ∀ {vs : List Value} {off m : Nat}, vs.length = m → (∀ j, j < m → cs[off + j]? = vs[j]?) → Pick cs off m vs
  | [], off, m, hm, h => by subst hm; exact .nil
  | v :: vs, off, m, hm, h => by
    subst hm
    refine .cons (by have := h 0 (by simp); simpa using this) (pick_at rfl fun j hj => ?_)
    have := h (j + 1) (by simp; omega)
    rw [show off + 1 + j = off + (j + 1) by omega]
    simpa using this
set_option maxRecDepth 100000 in
theorem open_rows {H : Type} {enc : TypeId × Value → H} {W : World} {r : Reach} {b0 base : Nat} {spare : Nat → Bool} {held : Bool} {v : Value} {d : DataW H} {p : List MemPlace} {α : Type} [Inhabited α] {t e k : Nat} {cells : α → List Value} {Q : α → Prop}
    (ht : Tryz.prog.underlying t = some (.slice e)) (ce : Tryz.prog.cellsOf e = k) (hk : 0 < k) (hlen : ∀ q, (cells q).length = k)
    (dec : ∀ (fuel : Nat) (cs : List Value) x, DataW.trod enc Tryz.prog W base spare held fuel e cs = some x → ∃ q, cs = cells q ∧ Q q)
    (hv : Value.okWide Tryz.prog W r b0 t v) (h : DataW.Trod enc Tryz.prog W base spare held t v d p) : ∃ xs : List α, LsX W k v (xs.map cells) ∧ ∀ a ∈ xs, Q a := by
  obtain ⟨a0, len, cap, rfl⟩ := okWide_slice ht hv
  obtain ⟨fuel, hf⟩ := h
  rcases Deep.open_slice ht hf with ⟨hc, hx⟩ | ⟨a, len', cap', m, n, D, Pl, hc, hb, hl, hm, hmm, hx, hall⟩
  · obtain ⟨rfl, rfl, rfl⟩ : a0 = none ∧ len = 0 ∧ cap = 0 := by injection hc with h1 h2; injection h1 with h1 h2 h3; exact ⟨h1, h2, h3⟩
    exact ⟨[], ⟨none, 0, rfl, fun h => absurd rfl h⟩, by simp⟩
  · obtain ⟨rfl, rfl, rfl⟩ : a0 = some a ∧ len = len' ∧ cap = cap' := by injection hc with h1 h2; injection h1 with h1 h2 h3; exact ⟨h1, h2, h3⟩
    have hlm : len ≤ m := by rw [hmm]; split <;> omega
    have each : ∀ i, i < len → ∃ q : α, W.cells? base (a.add (i * k)) k = some (cells q) ∧ Q q := fun i hi => by
      obtain ⟨cs', h1, h2⟩ := hall i (by omega)
      obtain ⟨q, rfl, hq⟩ := dec _ _ _ h2
      rw [ce] at h1
      exact ⟨q, h1, hq⟩
    obtain ⟨f, hfq⟩ := Deep.choose_lt each
    refine ⟨(List.range len).map f, ⟨some a, cap, by simp, fun hn => ?_⟩, fun x hx => by obtain ⟨i, hi, rfl⟩ := List.mem_map.1 hx; exact (hfq i (List.mem_range.1 hi)).2⟩
    have h0 : 0 < len := by
      rcases Nat.eq_zero_or_pos len with h0 | h0
      · subst h0; exact absurd rfl hn
      · exact h0
    have hcell : ∀ i, i < len → ∀ j, j < k → W.cell? ((a.add (i * k)).add j) = (cells (f i))[j]? := fun i hi => (World.cells?_some (hfq i hi).1).2.2
    have hc0 := hcell 0 h0 0 hk
    rw [List.getElem?_eq_getElem (by rw [hlen]; exact hk)] at hc0
    obtain ⟨cs, E, fz, hb', hsp, _⟩ := cell_block hc0
    obtain ⟨ab, ao, asp⟩ := a
    have e0 : ((⟨ab, ao, asp⟩ : Addr).add (0 * k)).add 0 = ⟨ab, ao, asp⟩ := by simp [Addr.add]
    rw [e0] at hb' hsp
    obtain rfl : asp = none := hsp
    refine ⟨ab, ao, cs.toList, E, fz, rfl, by simpa using hb', fun i x hx => ?_⟩
    have hi : i < len := by
      rcases Nat.lt_or_ge i len with h1 | h1
      · exact h1
      · rw [List.getElem?_eq_none (by simpa using h1)] at hx; cases hx
    have hx' : cells (f i) = x := by
      rw [List.getElem?_map, List.getElem?_map, List.getElem?_range hi] at hx
      exact Option.some.inj hx
    subst hx'
    refine pick_at (hlen _) fun j hj => ?_
    have g0 := hcell i hi j hj
    rw [addr_add, addr_add] at g0
    have g1 : (cells (f i))[j]? = some ((cells (f i))[j]'(by rw [hlen]; exact hj)) := List.getElem?_eq_getElem _
    rw [g1] at g0
    have := cell_of_block g0 hb'
    rw [g1]
    simpa [Nat.add_assoc] using this
end Go.Proofs.YtilajmcellffiaaGreatDoorX

namespace Go.Proofs.YtilajmcellffiaaGreatDoorX
open Go Go.RowKit
attribute [local irreducible] XS XC XA thenE blockE retE loopE loopS cutB cutN doneE SE
theorem made_rows (zs : List Value) (k : Nat) (hk : zs.length = k) (h0 : 0 < k) : ∀ m : Nat, madeCells zs.toArray (m * k) = ((List.replicate m zs).flatten).toArray := by
  have H : ∀ m : Nat, (List.range (m * k)).map (fun i => zs.toArray[i % zs.toArray.size]!) = (List.replicate m zs).flatten := fun m => by
    induction m with
    | zero => simp
    | succ m ih =>
      rw [Nat.add_mul, Nat.one_mul, List.range_add, List.map_append, ih, List.replicate_succ', List.flatten_append, List.flatten_singleton, List.map_map]
      congr 1
      apply List.ext_getElem
      · simp [hk]
      · intro i h1 h2
        simp only [List.length_map, List.length_range] at h1
        simp only [List.getElem_map, List.getElem_range, Function.comp, List.size_toArray, hk]
        rw [show (m * k + i) % k = i by rw [Nat.mul_comm, Nat.mul_add_mod, Nat.mod_eq_of_lt h1]]
        simp [h2]
  intro m
  apply Array.toList_inj.1
  rw [← H m]
  simp [madeCells]
section
variable {P : Program} {ops : Array Oper} {QE : Exit → Env → World → Prop} {n : Nat} {rest : List Oper} {env : Env} {w wb : World} {D : Ctx} {H : List Ent} {T : Tab}
  {d : Option Nat} {ty : Nat} {pos : String} {aft : Array Edge} {g : Option (Nat × Bool)}
theorem xs_makeR (hT : TabOk P T) {t e size bytes m : Nat} {zs : List Value} {x y : Operand} {kl kc : IntKind} (hw : wantedE ops env g = true) (hsl : look t T.sls = some (e, size, bytes)) (hz : look e T.zs = some zs) (hzl : Nat.beq zs.length size = true) (h0 : Nat.ble 1 size = true)
    (hx : ev env x = .int kl (m : Nat)) (hy : ev env y = .int kc (m : Nat)) (hb : bytes * m ≤ 281474976710656) (hm : m ≤ 9223372036854775807) (hs : St wb D H w)
    (k : ∀ b w', w'.heap.size = w.heap.size + 1 → St wb D ((b, .cells ((List.replicate m zs).flatten).toArray e, true) :: H) w' → XS P ops QE n rest (updO env d (.slice (some ⟨b, 0, none⟩) m m)) w') :
    XS P ops QE n (⟨d, .makeSlice t x y, ty, pos, aft, g⟩ :: rest) env w := by
  obtain ⟨hu, i, hi, hs1, hs2⟩ := sl_parts (hT.sl hsl)
  obtain ⟨i', z, hi', hz', hzc⟩ := z_parts (hT.z hz)
  rw [hi] at hi'; cases hi'
  have hr := run_make (P := P) w t e i z hu hi hz' kl kc (m : Nat) (m : Nat) (by omega) (Int.le_refl _) (by rw [hs2, ← Int.natCast_mul]; omega) (by omega)
  rw [hs1, hzc, Int.toNat_natCast, made_rows zs size (Nat.eq_of_beq_eq_true hzl) (Nat.le_of_ble_eq_true h0)] at hr
  refine XS.value hw (v := .slice (some ⟨w.heap.size, 0, none⟩) m m) (w' := w.alloc (.cells ((List.replicate m zs).flatten).toArray e)) ?_ (k w.heap.size _ (by simp) (hs.alloc _))
  simp [execOp, hx, hy, Sem.run_bind, hr]
end
structure Tk where
  id : Int
  st : Int
  core : Int
  w : Int
  slice : Int
  lag : Int
deriving DecidableEq
abbrev Tk.cells (x : Tk) : List Value := [.int .i64 x.id, .int .u8 x.st, .int .i64 x.core, .int .u32 x.w, .int .u64 x.slice, .int .i64 x.lag]
def tkv (x : Tk) : Value := .agg #[.int .i64 x.id, .int .u8 x.st, .int .i64 x.core, .int .u32 x.w, .int .u64 x.slice, .int .i64 x.lag]
def Tk.zero : Tk := ⟨0, 0, 0, 0, 0, 0⟩
def flatTk (l : List Tk) : List Value := (l.map Tk.cells).flatten
abbrev tabO (rb n cap : Nat) : Obj := .cells #[.slice (some ⟨rb, 0, none⟩) n cap] 160 (0, 0)
abbrev rowsO (l : List Tk) (rest : List Value) : Obj := .cells (flatTk l ++ rest).toArray 89 (0, 0)
def TabAt (w : World) (tb rb : Nat) (l : List Tk) : Prop := ∃ cap rest, w.heap[tb]? = some (tabO rb l.length cap) ∧ w.heap[rb]? = some (rowsO l rest) ∧ l.length ≤ 32 ∧ l.length ≤ cap ∧ rest.length + l.length * 6 = cap * 6
theorem TabAt.keep {w w' : World} {tb rb : Nat} {l : List Tk} {F : List Nat} (h : TabAt w tb rb l) (ho : Only F w w') (h1 : tb ∉ F) (h2 : rb ∉ F) : TabAt w' tb rb l := by
  obtain ⟨cap, rest, a, b, c⟩ := h
  exact ⟨cap, rest, ho.block a h1, ho.block b h2, c⟩
theorem TabAt.only {w w' : World} {tb rb : Nat} {l : List Tk} (h : TabAt w tb rb l) (ho : Only [] w w') : TabAt w' tb rb l := h.keep ho (by simp) (by simp)
theorem pick_app {cs more vs : List Value} {off n : Nat} (h : Pick cs off n vs) : Pick (cs ++ more) off n vs := by
  induction h with
  | nil => exact .nil
  | cons h1 _ ih => exact .cons (by rw [List.getElem?_append_left (by
      rcases Nat.lt_or_ge _ cs.length with h | h
      · exact h
      · rw [List.getElem?_eq_none h] at h1; cases h1)]; exact h1) ih
theorem flatTk_row {l : List Tk} {rest : List Value} {i : Nat} (h : i < l.length) : Pick (flatTk l ++ rest) (i * 6) 6 l[i].cells := by
  refine pick_app (pick_of rfl ?_)
  unfold flatTk
  exact flat_row (fun y hy => by obtain ⟨x, _, rfl⟩ := List.mem_map.1 hy; rfl) (by rw [List.getElem?_map, List.getElem?_eq_getElem h]; rfl)
def sizeT (n : Int) : Nat := (max 0 (min n 32)).toNat
theorem tnew_ret (n : Int) (w0 : World) : Ret Tryz.prog 44 #[.int .i64 n] w0 fun v w' => (∃ tb rb, v = .pointer (some ⟨tb, 0, none⟩) ∧ TabAt w' tb rb (List.replicate (sizeT n) .zero) ∧ w0.heap.size ≤ tb ∧ w0.heap.size ≤ rb ∧ tb ≠ rb) ∧ Only [] w0 w' := by
  have hs := St.nil w0
  refine ret_of_xc Tryz.func44 (by kernel_rfl) rfl Tryz.ntmps44 rfl rfl rfl ?_
  repeat' (first|refine vs (k:=?_)|refine qRg ?_|refine Nx.h ?_|fail)
  have hle : sizeT n ≤ 32 := by unfold sizeT; omega
  rw [show (if (if (32 : Int) < n then 32 else n) > 0 then (if (32 : Int) < n then 32 else n) else 0) = ((sizeT n : Nat) : Int) by unfold sizeT; split <;> split <;> omega]
  generalize sizeT n = m at *
  refine xs_makeR tabOk (m := m) rfl rfl rfl rfl rfl rfl rfl (by omega) (by omega) hs (k := ?_)
  intro rb w1 hz1 hs
  have g1 := hs.new _ List.mem_cons_self rfl
  simp only at g1
  refine vs (k := ?_)
  refine bx hs (k := ?_); intro tb w2 hz2 hs
  have g2 := hs.new _ List.mem_cons_self rfl
  simp only at g2
  have hnd := hs.nd
  simp only [List.map_cons, List.nodup_cons, List.mem_cons, List.map_nil, List.not_mem_nil, or_false] at hnd
  repeat' (first|refine vs (k:=?_)|refine Nx.h ?_|fail)
  first | refine rt (hq := ?_) | refine rt' (hq := ?_)
  refine ⟨⟨tb, rb, rfl, ⟨m, [], ?_, ?_, by rw [List.length_replicate]; exact hle, by rw [List.length_replicate]; exact ⟨Nat.le_refl _, by simp⟩⟩, g2, g1, hnd.1⟩, hs.only0 rfl⟩
  · rw [List.length_replicate]; exact hs.get At.head
  · have := hs.get (At.tail At.head)
    rw [this]
    unfold rowsO flatTk
    rw [List.map_replicate, List.append_nil]; rfl
theorem tright_ret (x : Tk) (w0 : World) : Ret Tryz.prog 91 #[tkv x] w0 fun v w' => v = .bool (decide (1 ≤ x.st) && decide (x.st ≤ 3)) ∧ Only [] w0 w' := by
  have hs := St.nil w0
  refine ret_of_xc Tryz.func91 (by kernel_rfl) rfl Tryz.ntmps91 rfl rfl rfl ?_
  repeat' (first|refine vs (k:=?_)|refine ps (k:=?_)|(refine bx hs (k:=?_);intro b w hz hs)|refine qRg ?_|refine Nx.h ?_|((with_reducible apply xs_guard);exact rfl;exact rfl;intro c hc;(fail_if_success have:true=c:=hc);(fail_if_success have:false=c:=hc);cases c)|fail)
  all_goals (first | refine rt (hq := ?_) | refine rt' (hq := ?_))
  all_goals refine ⟨?_, hs.only0 rfl⟩
  all_goals clear hs
  · have h1 : decide (1 ≤ x.st) = false := hc
    rw [h1]; rfl
  · have h1 : decide (1 ≤ x.st) = true := hc
    rw [h1]; rfl
end Go.Proofs.YtilajmcellffiaaGreatDoorX

namespace Go.Proofs.YtilajmcellffiaaGreatDoorX
open Go Go.RowKit
attribute [local irreducible] XS XC XA thenE blockE retE loopE loopS cutB cutN doneE SE
def findT (l : List Tk) (id : Int) : Option Nat := if 1 ≤ id ∧ id ≤ l.length ∧ (l.getD (id - 1).toNat .zero).st ≠ 0 then some (id - 1).toNat else none
theorem findT_lt {l : List Tk} {id : Int} {i : Nat} (h : findT l id = some i) : i < l.length ∧ id = (i : Int) + 1 := by
  unfold findT at h
  split at h
  · cases h; omega
  · cases h
def posT (o : Option Nat) : Int := match o with | some i => (i : Int) | none => 0
def errT (o : Option Nat) : Int := match o with | some _ => 0 | none => 4
set_option maxHeartbeats 4000000 in
theorem tfind_ret (tb rb : Nat) (l : List Tk) (id : Int) (w0 : World) (h : TabAt w0 tb rb l) (hid : In64 id) : Ret Tryz.prog 90 #[.pointer (some ⟨tb, 0, none⟩), .int .i64 id] w0 fun v w' => v = .tuple #[.int .i64 (posT (findT l id)), .int .i64 (errT (findT l id))] ∧ Only [] w0 w' := by
  obtain ⟨cap, rest, h1, h2, h3, h4⟩ := h
  have hs := ((St.nil w0).trackT h1).trackT h2
  refine ret_of_xc Tryz.func90 (by kernel_rfl) rfl Tryz.ntmps90 rfl rfl rfl ?_
  repeat' (first|refine Nx.h ?_|fail)
  refine xc_region ?_ ?_; exact rfl
  refine vs (k := ?_)
  refine vs (k := ?_)
  repeat' (first|refine Nx.h ?_|fail)
  refine xc_region ?_ ?_; exact rfl
  refine vs (k := ?_)
  refine vs (k := ?_)
  refine vs (k := ?_)
  repeat' (first|refine Nx.h ?_|refine qCf ?_|fail)
  refine xc_region ?_ ?_; exact rfl
  refine vs (k := ?_)
  refine vs (k := ?_)
  by_cases c1 : id < 1
  · have e : findT l id = none := if_neg (by omega)
    rw [decide_eq_true c1, e]
    repeat' (first|refine vs (k:=?_)|refine ps (k:=?_)|refine qRg ?_|refine Nx.h ?_|refine qCt ?_|fail)
    first | refine rt (hq := ?_) | refine rt' (hq := ?_)
    exact ⟨rfl, hs.onlyF [] (by simp [h1, h2]) (by simp [D0])⟩
  rw [decide_eq_false c1]
  iterate 8 refine vs (k := ?_)
  by_cases c2 : id > (l.length : Nat)
  · have e : findT l id = none := if_neg (by omega)
    rw [decide_eq_true c2, e]
    repeat' (first|refine vs (k:=?_)|refine ps (k:=?_)|refine qRg ?_|refine Nx.h ?_|refine qCt ?_|fail)
    first | refine rt (hq := ?_) | refine rt' (hq := ?_)
    exact ⟨rfl, hs.onlyF [] (by simp [h1, h2]) (by simp [D0])⟩
  rw [decide_eq_false c2]
  obtain ⟨i, rfl⟩ : ∃ i : Nat, id = (i : Int) + 1 := ⟨(id - 1).toNat, by omega⟩
  have hi : i < l.length := by omega
  have ew : IntKind.i64.wrap ((i : Int) + 1 - 1) = (i : Int) := by rw [wrap_i64]; omega
  have ei : ((i : Int) + 1 - 1).toNat = i := by omega
  have hpk := flatTk_row (rest := rest) hi
  have eF : findT l ((i : Int) + 1) = if l[i].st ≠ 0 then some i else none := by
    unfold findT
    rw [ei, List.getD_eq_getElem?_getD, List.getElem?_eq_getElem hi]
    by_cases hq : l[i].st = 0
    · rw [if_neg (by simp [hq]), if_neg (by simp [hq])]
    · rw [if_pos ⟨by omega, by omega, by simpa using hq⟩, if_pos hq]
  generalize l[i] = q at *
  iterate 8 refine vs (k := ?_)
  rw [ew]
  refine ix (h0 := (by omega)) (h1 := (by omega)) (k := ?_)
  refine vs (k := ?_)
  refine lh (v := .int .u8 q.st) (hs.get At.head) ?_ (k := ?_)
  · cases hpk with | cons a t => cases t with | cons a2 _ => simpa using a2
  refine vs (k := ?_)
  by_cases hq : q.st = 0
  · rw [if_neg (by simp [hq])] at eF
    rw [eF, hq]
    repeat' (first|refine vs (k:=?_)|refine qRg ?_|refine Nx.h ?_|refine qCt ?_|fail)
    first | refine rt (hq := ?_) | refine rt' (hq := ?_)
    exact ⟨rfl, hs.onlyF [] (by simp [h1, h2]) (by simp [D0])⟩
  · rw [if_pos hq] at eF
    rw [eF, show (q.st == 0) = false by simpa using hq]
    repeat' (first|refine vs (k:=?_)|refine qRg ?_|refine Nx.h ?_|refine qCf ?_|fail)
    first | refine rt (hq := ?_) | refine rt' (hq := ?_)
    refine ⟨?_, hs.onlyF [] (by simp [h1, h2]) (by simp [D0])⟩
    show Value.tuple _ = Value.tuple _
    rw [ew]; rfl
def taskT (l : List Tk) (id : Int) : Tk := match findT l id with | some i => l.getD i .zero | none => .zero
set_option maxHeartbeats 4000000 in
theorem ttask_ret (tb rb : Nat) (l : List Tk) (id : Int) (w0 : World) (h : TabAt w0 tb rb l) (hid : In64 id) : Ret Tryz.prog 46 #[.pointer (some ⟨tb, 0, none⟩), .int .i64 id] w0 fun v w' => v = .tuple #[tkv (taskT l id), .int .i64 (errT (findT l id))] ∧ Only [] w0 w' := by
  have hT := h
  obtain ⟨cap, rest, h1, h2, h3, h4⟩ := h
  have hs := ((St.nil w0).trackT h1).trackT h2
  refine ret_of_xc Tryz.func46 (by kernel_rfl) rfl Tryz.ntmps46 rfl rfl rfl ?_
  refine xc_seq ?_
  refine xc_region ?_ ?_; exact rfl
  refine al hs (k := ?_); intro b4 w hz hs
  repeat' (first|refine vs (k:=?_)|refine qRg ?_|refine Nx.h ?_|fail)
  (with_reducible apply xs_call); exact rfl; exact rfl; exact tfind_ret tb rb l id _ (hT.only (hs.onlyF [] (by simp [h1, h2]) (by simp [D0]))) hid
  unfold taskT
  cases e : findT l id with
  | none =>
    rintro v w' ⟨rfl, ho⟩; replace hs := hs.call0 ho; repeat' (first|refine vs (k:=?_)|(refine stA hs (k:=?_);intro w hs)|refine qRg ?_|refine Nx.h ?_|refine qCt ?_|fail)
    first | refine rt (hq := ?_) | refine rt' (hq := ?_)
    exact ⟨rfl, hs.onlyF [] (by simp [h1, h2]) (by simp [D0])⟩
  | some i =>
    obtain ⟨hi, _⟩ := findT_lt e
    have hpk := flatTk_row (rest := rest) hi
    have eG : l.getD i .zero = l[i] := by rw [List.getD_eq_getElem?_getD, List.getElem?_eq_getElem hi]; rfl
    simp only
    rw [eG]
    generalize l[i] = q at *
    rintro v w' ⟨rfl, ho⟩; replace hs := hs.call0 ho; repeat' (first|refine vs (k:=?_)|refine qRg ?_|refine Nx.h ?_|refine qCf ?_|fail)
    refine ix (h0 := (by show (0 : Int) ≤ (i : Int); omega)) (h1 := (by show (i : Int) < _; omega)) (k := ?_)
    refine lhK (vs := q.cells) (hs.get (b := rb) (o := rowsO l rest) (by repeat (first | exact At.head | (with_reducible apply At.tail)))) ?_ (k := ?_)
    · simpa [posT] using hpk
    repeat' (first|refine vs (k:=?_)|(refine stA hs (k:=?_);intro w hs)|refine Nx.h ?_|fail)
    first | refine rt (hq := ?_) | refine rt' (hq := ?_)
    exact ⟨rfl, hs.onlyF [] (by simp [h1, h2]) (by simp [D0])⟩
end Go.Proofs.YtilajmcellffiaaGreatDoorX

namespace Go.Proofs.YtilajmcellffiaaGreatDoorX
open Go Go.RowKit
attribute [local irreducible] XS XC XA thenE blockE retE loopE loopS cutB cutN doneE SE
theorem flatTk_cons (x : Tk) (l : List Tk) : flatTk (x :: l) = x.cells ++ flatTk l := by simp [flatTk]
theorem put_row (y : Tk) {rest : List Value} : ∀ {l : List Tk} {i : Nat}, i < l.length → PutL (flatTk l ++ rest) (i * 6) y.cells (flatTk (l.set i y) ++ rest)
  | [], i, h => absurd h (Nat.not_lt_zero _)
  | x :: l, 0, _ => by
    rw [flatTk_cons, List.set_cons_zero, flatTk_cons, List.append_assoc, List.append_assoc]
    exact .cons (.cons (.cons (.cons (.cons (.cons .nil)))))
  | x :: l, i + 1, h => by
    have ih := put_row y (rest := rest) (l := l) (i := i) (Nat.lt_of_succ_lt_succ h)
    rw [flatTk_cons, List.set_cons_succ, flatTk_cons, List.append_assoc, List.append_assoc, show (i + 1) * 6 = i * 6 + 1 + 1 + 1 + 1 + 1 + 1 by omega]
    exact .skip (.skip (.skip (.skip (.skip (.skip ih)))))
def dropT (l : List Tk) (id : Int) : List Tk := match findT l id with | some i => l.set i .zero | none => l
set_option maxHeartbeats 4000000 in
theorem tdrop_ret (tb rb : Nat) (l : List Tk) (id : Int) (w0 : World) (h : TabAt w0 tb rb l) (hid : In64 id) : Ret Tryz.prog 45 #[.pointer (some ⟨tb, 0, none⟩), .int .i64 id] w0 fun v w' => v = .int .i64 (errT (findT l id)) ∧ TabAt w' tb rb (dropT l id) ∧ Only [rb] w0 w' := by
  have hT := h
  obtain ⟨cap, rest, h1, h2, h3, h4⟩ := h
  have hs := ((St.nil w0).trackT h1).trackT h2
  refine ret_of_xc Tryz.func45 (by kernel_rfl) rfl Tryz.ntmps45 rfl rfl rfl ?_
  repeat' (first|refine vs (k:=?_)|refine qRg ?_|refine Nx.h ?_|fail)
  (with_reducible apply xs_call); exact rfl; exact rfl; exact tfind_ret tb rb l id _ (hT.only (hs.onlyF [] (by simp [h1, h2]) (by simp [D0]))) hid
  unfold dropT
  cases e : findT l id with
  | none =>
    rintro v w' ⟨rfl, ho⟩; replace hs := hs.call0 ho; repeat' (first|refine vs (k:=?_)|refine qRg ?_|refine Nx.h ?_|refine qCf ?_|fail)
    first | refine rt (hq := ?_) | refine rt' (hq := ?_)
    have ho := hs.onlyF [] (by simp [h1, h2]) (by simp [D0])
    exact ⟨rfl, hT.only ho, ho.weaken (by simp)⟩
  | some i =>
    obtain ⟨hi, _⟩ := findT_lt e
    have hpt := put_row .zero (rest := rest) hi
    rintro v w' ⟨rfl, ho⟩; replace hs := hs.call0 ho; repeat' (first|refine vs (k:=?_)|refine qRg ?_|refine Nx.h ?_|refine qCt ?_|fail)
    refine ix (h0 := (by show (0 : Int) ≤ (i : Int); omega)) (h1 := (by show (i : Int) < _; omega)) (k := ?_)
    refine stA hs (cs := flatTk l ++ rest) (vs := Tk.zero.cells) (cs' := flatTk (l.set i .zero) ++ rest) (hc := ?_) (k := ?_)
    · simpa [posT] using hpt
    intro w hs
    repeat' (first|refine vs (k:=?_)|refine qRg ?_|refine Nx.h ?_|fail)
    first | refine rt (hq := ?_) | refine rt' (hq := ?_)
    have ho := hs.onlyF [rb] (by simp [h1]) (by simp [D0])
    refine ⟨rfl, ⟨cap, rest, ?_, hs.get At.head, by rw [List.length_set]; exact h3, by rw [List.length_set]; exact h4⟩, ho⟩
    rw [List.length_set]; exact hs.get (At.tail At.head)
def rightT (x : Tk) : Bool := decide (1 ≤ x.st) && decide (x.st ≤ 3)
def setE (l : List Tk) (x : Tk) : Int := bif rightT x then errT (findT l x.id) else 2
def setT (l : List Tk) (x : Tk) : List Tk := bif rightT x then (match findT l x.id with | some i => l.set i x | none => l) else l
set_option maxHeartbeats 4000000 in
theorem tset_ret (tb rb : Nat) (l : List Tk) (x : Tk) (w0 : World) (h : TabAt w0 tb rb l) (hid : In64 x.id) : Ret Tryz.prog 51 #[.pointer (some ⟨tb, 0, none⟩), tkv x] w0 fun v w' => v = .int .i64 (setE l x) ∧ TabAt w' tb rb (setT l x) ∧ Only [rb] w0 w' := by
  have hT := h
  obtain ⟨cap, rest, h1, h2, h3, h4⟩ := h
  have hs := ((St.nil w0).trackT h1).trackT h2
  have lb1 := lt_of_block h1
  have lb2 := lt_of_block h2
  refine ret_of_xc Tryz.func51 (by kernel_rfl) rfl Tryz.ntmps51 rfl rfl rfl ?_
  repeat' (first|refine vs (k:=?_)|(refine bx hs (k:=?_);intro b w hz hs)|refine qRg ?_|refine Nx.h ?_|refine qCf ?_|fail)
  (with_reducible apply xs_call); exact rfl; exact rfl; exact tright_ret x _
  rw [show (decide (1 ≤ x.st) && decide (x.st ≤ 3)) = rightT x from rfl]
  unfold setE setT
  cases hr : rightT x with
  | false =>
    rintro v w' ⟨rfl, ho⟩; replace hs := hs.call0 ho; repeat' (first|refine vs (k:=?_)|refine qRg ?_|refine Nx.h ?_|refine qCt ?_|fail)
    first | refine rt (hq := ?_) | refine rt' (hq := ?_)
    have ho := hs.onlyF [] (by simp [h1, h2]) (by simp [D0])
    exact ⟨rfl, hT.only ho, ho.weaken (by simp)⟩
  | true =>
    rintro v w' ⟨rfl, ho⟩; replace hs := hs.call0 ho; repeat' (first|refine vs (k:=?_)|refine qRg ?_|refine Nx.h ?_|refine qCf ?_|fail)
    (with_reducible apply xs_call); exact rfl; exact rfl; exact tfind_ret tb rb l x.id _ (hT.only (hs.onlyF [] (by simp [h1, h2]) (by simp [D0]))) hid
    simp only [cond_true]
    cases e : findT l x.id with
    | none =>
      rintro v w' ⟨rfl, ho⟩; replace hs := hs.call0 ho; repeat' (first|refine vs (k:=?_)|refine qRg ?_|refine Nx.h ?_|refine qCf ?_|fail)
      first | refine rt (hq := ?_) | refine rt' (hq := ?_)
      have ho := hs.onlyF [] (by simp [h1, h2]) (by simp [D0])
      exact ⟨rfl, hT.only ho, ho.weaken (by simp)⟩
    | some i =>
      obtain ⟨hi, _⟩ := findT_lt e
      have hpt := put_row x (rest := rest) hi
      rintro v w' ⟨rfl, ho⟩; replace hs := hs.call0 ho; repeat' (first|refine vs (k:=?_)|refine qRg ?_|refine Nx.h ?_|refine qCt ?_|fail)
      refine dr [7] hs (k := ?_); intro hX w hs
      refine tk 0 hX (k := ?_)
      refine tk 1 hX (k := ?_)
      refine tk 2 hX (k := ?_)
      refine tk 3 hX (k := ?_)
      refine tk 4 hX (k := ?_)
      refine tk 5 hX (k := ?_)
      refine tk 6 hX (hr := fun w' hH => r_indexAddr tabOk rfl rfl rfl (by show (0 : Int) ≤ (i : Int); omega) (by show (i : Int) < _; omega)) (k := ?_)
      refine dt 7 hX (k := ?_)
      refine stA hs (cs := flatTk l ++ rest) (vs := x.cells) (cs' := flatTk (l.set i x) ++ rest) (hc := ?_) (k := ?_)
      · simpa [posT] using hpt
      intro w hs
      refine XS.nil ?_
      refine dn (k := ?_)
      refine en (k := ?_)
      repeat' (first|refine vs (k:=?_)|refine qRg ?_|refine Nx.h ?_|fail)
      first | refine rt (hq := ?_) | refine rt' (hq := ?_)
      have ho := hs.onlyF [rb] (by simp [h1]) (by simp [D0])
      refine ⟨rfl, ⟨cap, rest, ?_, hs.get (b := rb) (by repeat (first | exact At.head | (with_reducible apply At.tail))), by rw [List.length_set]; exact h3, by rw [List.length_set]; exact h4⟩, ho⟩
      rw [List.length_set]; exact hs.get (b := tb) (by repeat (first | exact At.head | (with_reducible apply At.tail)))
end Go.Proofs.YtilajmcellffiaaGreatDoorX

namespace Go.Proofs.YtilajmcellffiaaGreatDoorX
open Go Go.RowKit
attribute [local irreducible] XS XC XA thenE blockE retE loopE loopS cutB cutN doneE SE
def freeT : List Tk → Option Nat
  | [] => none
  | x :: l => if x.st = 0 then some 0 else (freeT l).map (· + 1)
theorem freeT_drop {l : List Tk} {i : Nat} (h : i < l.length) : freeT (l.drop i) = if l[i].st = 0 then some 0 else (freeT (l.drop (i + 1))).map (· + 1) := by rw [List.drop_eq_getElem_cons h]; rfl
theorem freeT_lt : ∀ {l : List Tk} {i : Nat}, freeT l = some i → i < l.length
  | [], i, h => by cases h
  | x :: l, i, h => by
    unfold freeT at h
    split at h
    · cases h; simp
    · cases e : freeT l with
      | none => rw [e] at h; cases h
      | some j => rw [e] at h; cases h; have := freeT_lt e; simp; omega
theorem add1_ret (x : Tk) (w0 : World) : Ret Tryz.prog 93 #[tkv x] w0 fun v w' => v = .bool (x.st == 0) ∧ Only [] w0 w' := by
  have hs := St.nil w0
  refine ret_of_xc Tryz.func93 (by kernel_rfl) rfl Tryz.ntmps93 rfl rfl rfl ?_
  repeat' (first|refine vs (k:=?_)|(refine bx hs (k:=?_);intro b w hz hs)|refine qRg ?_|refine Nx.h ?_|fail)
  first | refine rt (hq := ?_) | refine rt' (hq := ?_)
  exact ⟨rfl, hs.only0 rfl⟩
def idxT (o : Option Nat) : Int := match o with | some i => (i : Int) | none => -1
set_option maxHeartbeats 4000000 in
theorem indexF_ret (rb cap : Nat) (l : List Tk) (rest : List Value) (w0 : World) (hm : l.length ≤ 32) (h : w0.heap[rb]? = some (rowsO l rest)) : Ret Tryz.prog 92 #[.slice (some ⟨rb, 0, none⟩) l.length cap, .func (.func 93) #[] #[]] w0 fun v w' => v = .int .i64 (idxT (freeT l)) ∧ Only [] w0 w' := by
  have hs := St.nil w0
  refine ret_of_xc Tryz.func92 (by kernel_rfl) rfl Tryz.ntmps92 rfl rfl rfl ?_
  repeat' (first|refine vs (k:=?_)|refine qRg ?_|refine Nx.h ?_|fail)
  refine xc_cutB (fun (_ : Unit) => []) (fun _ w => freeT l = none ∧ Only [] w0 w) ?_ ?_
  · refine xc_loopS (fun (i : Nat) => [(0, .slice (some ⟨rb, 0, none⟩) l.length cap), (1, .func (.func 93) #[] #[]), (7, .int .i64 (l.length : Nat)), (8, .int .i64 (i : Nat))]) (fun i w => i ≤ l.length ∧ (freeT (l.drop i)).map (· + i) = freeT l ∧ Only [] w0 w) (fun i => l.length - i) 0 (by (repeat (first | exact agree_nil | (apply agree_cons; exact rfl)))) ⟨Nat.zero_le _, by rw [List.drop_zero]; cases freeT l <;> rfl, hs.only0 rfl⟩ fun i env wl ⟨hi, he, ho0⟩ => ?_
    clear hs
    have hs := St.nil wl
    repeat' (first|refine vs (k:=?_)|refine qRg ?_|refine Nx.h ?_|(refine xc_if rfl (fun hc=>?_) (fun hc=>?_))|fail)
    · have hlt : i < l.length := by omega
      have hpk := flatTk_row (rest := rest) hlt
      have ei := nx64 (m := l.length) hlt (by omega)
      rw [freeT_drop hlt] at he
      generalize l[i] = q at *
      refine ix (h0 := (by omega)) (h1 := (by omega)) (k := ?_)
      refine lhK (vs := q.cells) (ho0.block h (by simp)) ?_ (k := ?_)
      · simpa using hpk
      (with_reducible apply xs_call); exact rfl; exact rfl; exact add1_ret q _
      by_cases hq : q.st = 0
      · rw [if_pos hq] at he
        rw [hq]
        rintro v w' ⟨rfl, ho⟩; replace hs := hs.call0 ho; repeat' (first|refine vs (k:=?_)|refine qRg ?_|refine Nx.h ?_|refine qCt ?_|fail)
        first | refine rt (hq := ?_) | refine rt' (hq := ?_)
        exact ⟨by rw [← he]; simp [idxT, packed], ho0.trans (hs.only0 rfl)⟩
      · rw [if_neg hq] at he
        rw [show (q.st == 0) = false by simpa using hq]
        rintro v w' ⟨rfl, ho⟩; replace hs := hs.call0 ho; repeat' (first|refine vs (k:=?_)|refine qRg ?_|refine Nx.h ?_|refine qCf ?_|fail)
        refine loopS_next (i + 1) (by show l.length - (i + 1) < l.length - i; omega) (by (repeat (first | exact agree_nil | (apply agree_cons; first | exact rfl | exact congrArg (Value.int .i64) ei)))) ⟨by show i + 1 ≤ _; omega, ?_, ho0.trans (hs.only0 rfl)⟩
        rw [← he]
        cases freeT (l.drop (i + 1)) with
        | none => rfl
        | some j => simp; omega
    · have e : i = l.length := by omega
      subst e
      rw [List.drop_length] at he
      exact cutB_exit () (by (repeat (first | exact agree_nil | (apply agree_cons; exact rfl)))) ⟨he.symm, ho0⟩
  · rintro _ env w ⟨he, ho0⟩
    clear hs
    have hs := St.nil w
    repeat' (first|refine vs (k:=?_)|refine qRg ?_|refine Nx.h ?_|fail)
    first | refine rt (hq := ?_) | refine rt' (hq := ?_)
    exact ⟨by rw [he]; rfl, ho0.trans (hs.only0 rfl)⟩
end Go.Proofs.YtilajmcellffiaaGreatDoorX

namespace Go.Proofs.YtilajmcellffiaaGreatDoorX
open Go Go.RowKit
attribute [local irreducible] XS XC XA thenE blockE retE loopE loopS cutB cutN doneE SE
def addI (l : List Tk) (x : Tk) : Int := bif rightT x then (match freeT l with | some i => (i : Int) + 1 | none => 0) else 0
def addE (l : List Tk) (x : Tk) : Int := bif rightT x then (match freeT l with | some _ => 0 | none => 7) else 2
def addT (l : List Tk) (x : Tk) : List Tk := bif rightT x then (match freeT l with | some i => l.set i { x with id := (i : Int) + 1 } | none => l) else l
set_option maxHeartbeats 4000000 in
theorem tadd_ret (tb rb : Nat) (l : List Tk) (x : Tk) (w0 : World) (h : TabAt w0 tb rb l) : Ret Tryz.prog 47 #[.pointer (some ⟨tb, 0, none⟩), tkv x] w0 fun v w' => v = .tuple #[.int .i64 (addI l x), .int .i64 (addE l x)] ∧ TabAt w' tb rb (addT l x) ∧ Only [rb] w0 w' := by
  have hT := h
  obtain ⟨cap, rest, h1, h2, h3, h4⟩ := h
  have hs := ((St.nil w0).trackT h1).trackT h2
  have lb1 := lt_of_block h1
  have lb2 := lt_of_block h2
  refine ret_of_xc Tryz.func47 (by kernel_rfl) rfl Tryz.ntmps47 rfl rfl rfl ?_
  repeat' (first|refine vs (k:=?_)|(refine bx hs (k:=?_);intro b w hz hs)|refine qRg ?_|refine Nx.h ?_|refine qCf ?_|fail)
  (with_reducible apply xs_call); exact rfl; exact rfl; exact tright_ret x _
  rw [show (decide (1 ≤ x.st) && decide (x.st ≤ 3)) = rightT x from rfl]
  unfold addI addE addT
  cases hr : rightT x with
  | false =>
    rintro v w' ⟨rfl, ho⟩; replace hs := hs.call0 ho; repeat' (first|refine vs (k:=?_)|refine qRg ?_|refine Nx.h ?_|refine qCt ?_|fail)
    first | refine rt (hq := ?_) | refine rt' (hq := ?_)
    have ho := hs.onlyF [] (by simp [h1, h2]) (by simp [D0])
    exact ⟨rfl, hT.only ho, ho.weaken (by simp)⟩
  | true =>
    rintro v w' ⟨rfl, ho⟩; replace hs := hs.call0 ho; repeat' (first|refine vs (k:=?_)|refine qRg ?_|refine Nx.h ?_|refine qCf ?_|fail)
    (with_reducible apply xs_call); exact rfl; exact rfl; exact indexF_ret rb cap l rest _ h3 (hs.get (b := rb) (o := rowsO l rest) (by repeat (first | exact At.head | (with_reducible apply At.tail))))
    simp only [cond_true]
    cases e : freeT l with
    | none =>
      rintro v w' ⟨rfl, ho⟩; replace hs := hs.call0 ho; repeat' (first|refine vs (k:=?_)|refine qRg ?_|refine Nx.h ?_|refine qCt ?_|fail)
      first | refine rt (hq := ?_) | refine rt' (hq := ?_)
      have ho := hs.onlyF [] (by simp [h1, h2]) (by simp [D0])
      exact ⟨rfl, hT.only ho, ho.weaken (by simp)⟩
    | some i =>
      have hi := freeT_lt e
      have hpt := put_row { x with id := (i : Int) + 1 } (rest := rest) hi
      have ew : IntKind.i64.wrap ((i : Int) + 1) = (i : Int) + 1 := by rw [wrap_i64]; omega
      rw [show idxT (some i) = (i : Int) from rfl]
      rintro v w' ⟨rfl, ho⟩; replace hs := hs.call0 ho
      refine vs (k := ?_)
      repeat' (first|refine Nx.h ?_|fail)
      refine xc_region ?_ ?_; exact rfl
      refine vs (k := ?_)
      refine vs (k := ?_)
      rw [decide_eq_false (show ¬ ((i : Int) < 0) by omega)]
      repeat' (first|refine Nx.h ?_|refine qCf ?_|fail)
      refine xc_region ?_ ?_; exact rfl
      refine vs (k := ?_)
      refine vs (k := ?_)
      rw [ew]
      repeat' (first|refine vs (k:=?_)|(refine st hs (k:=?_);intro w hs)|refine Nx.h ?_|fail)
      refine dr [7] hs (k := ?_); intro hX w hs
      refine tk 0 hX (k := ?_)
      refine tk 1 hX (k := ?_)
      refine tk 2 hX (k := ?_)
      refine tk 3 hX (k := ?_)
      refine tk 4 hX (k := ?_)
      refine tk 5 hX (k := ?_)
      refine tk 6 hX (hr := fun w' hH => r_indexAddr tabOk rfl rfl rfl (by show (0 : Int) ≤ (i : Int); omega) (by show (i : Int) < _; omega)) (k := ?_)
      refine dt 7 hX (k := ?_)
      refine stA hs (cs := flatTk l ++ rest) (vs := Tk.cells { x with id := (i : Int) + 1 }) (cs' := flatTk (l.set i { x with id := (i : Int) + 1 }) ++ rest) (hc := ?_) (k := ?_)
      · simpa using hpt
      intro w hs
      refine XS.nil ?_
      refine dn (k := ?_)
      refine en (k := ?_)
      repeat' (first|refine vs (k:=?_)|refine qRg ?_|refine Nx.h ?_|fail)
      first | refine rt (hq := ?_) | refine rt' (hq := ?_)
      have ho := hs.onlyF [rb] (by simp [h1]) (by simp [D0])
      refine ⟨rfl, ⟨cap, rest, ?_, hs.get (b := rb) (by repeat (first | exact At.head | (with_reducible apply At.tail))), by rw [List.length_set]; exact h3, by rw [List.length_set]; exact h4⟩, ho⟩
      rw [List.length_set]; exact hs.get (b := tb) (by repeat (first | exact At.head | (with_reducible apply At.tail)))
end Go.Proofs.YtilajmcellffiaaGreatDoorX

namespace Go.Proofs.YtilajmcellffiaaGreatDoorX
open Go Go.RowKit
attribute [local irreducible] XS XC XA thenE blockE retE loopE loopS cutB cutN doneE SE
def liveT (l : List Tk) : List Tk := l.filter fun x => decide (x.st ≠ 0)
theorem liveT_snoc (l : List Tk) (x : Tk) : liveT (l ++ [x]) = if x.st = 0 then liveT l else liveT l ++ [x] := by
  unfold liveT
  rw [List.filter_append]
  by_cases h : x.st = 0
  · rw [if_pos h]; simp [h]
  · rw [if_neg h]; simp [h]
theorem flatTk_app (a b : List Tk) : flatTk (a ++ b) = flatTk a ++ flatTk b := by simp [flatTk]
set_option maxHeartbeats 4000000 in
theorem tasks_ret (tb rb : Nat) (l : List Tk) (w0 : World) (h : TabAt w0 tb rb l) : Ret Tryz.prog 49 #[.pointer (some ⟨tb, 0, none⟩)] w0 fun v w' => (∃ G, SlV w' 89 6 v (liveT l).length (flatTk (liveT l)) G ∧ ∀ k ∈ G, w0.heap.size ≤ k) ∧ Only [] w0 w' := by
  obtain ⟨cap, rest, h1, h2, h3, h4⟩ := h
  have hs := (St.nil w0).trackT h1
  refine ret_of_xc Tryz.func49 (by kernel_rfl) rfl Tryz.ntmps49 rfl rfl rfl ?_
  repeat' (first|refine vs (k:=?_)|refine qRg ?_|refine Nx.h ?_|refine qCf ?_|fail)
  have hoA := hs.onlyF [] (by simp [h1]) (by simp [D0])
  refine xc_cutB (fun (v3 : Value) => [(3, v3)]) (fun v3 w => Only [] w0 w ∧ ∃ G, SlV w 89 6 v3 (liveT l).length (flatTk (liveT l)) G ∧ ∀ k ∈ G, w0.heap.size ≤ k) ?_ ?_
  · refine xc_loopS (fun (x : Nat × Value) => [(3, x.2), (11, .slice (some ⟨rb, 0, none⟩) l.length cap), (12, .int .i64 (l.length : Nat)), (13, .int .i64 (x.1 : Nat))])
      (fun x w => x.1 ≤ l.length ∧ Only [] w0 w ∧ ∃ G, SlV w 89 6 x.2 (liveT (l.take x.1)).length (flatTk (liveT (l.take x.1))) G ∧ ∀ k ∈ G, w0.heap.size ≤ k) (fun x => l.length - x.1) (0, .slice none 0 0) (by (repeat (first | exact agree_nil | (apply agree_cons; exact rfl)))) ⟨Nat.zero_le _, hoA, [], .inl ⟨rfl, rfl, rfl, rfl⟩, by simp⟩ fun x env wl ⟨hi, ho0, hT⟩ => ?_
    obtain ⟨i, v5⟩ := x
    simp only at hi hT
    obtain ⟨G, hG, hGn⟩ := hT
    clear hs
    have hs := St.nil wl
    repeat' (first|refine vs (k:=?_)|refine qRg ?_|refine Nx.h ?_|(refine xc_if rfl (fun hc=>?_) (fun hc=>?_))|fail)
    · have hlt : i < l.length := by omega
      have hpk := flatTk_row (rest := rest) hlt
      have ei := nx64 (m := l.length) hlt (by omega)
      have et : liveT (l.take (i + 1)) = if l[i].st = 0 then liveT (l.take i) else liveT (l.take i) ++ [l[i]] := by rw [take_next hlt, liveT_snoc]
      have hlG := hG.lt
      have hle : (liveT (l.take i)).length ≤ 32 := by have := List.length_filter_le (fun x : Tk => decide (x.st ≠ 0)) (l.take i); rw [List.length_take] at this; unfold liveT; omega
      generalize l[i] = q at *
      generalize liveT (l.take i) = A at *
      refine ix (h0 := (by omega)) (h1 := (by omega)) (k := ?_)
      refine lhK (vs := q.cells) (ho0.block h2 (by simp)) ?_ (k := ?_)
      · simpa using hpk
      by_cases hq : q.st = 0
      · rw [if_pos hq] at et
        repeat' (first|refine vs (k:=?_)|(refine stA hs (k:=?_);intro w hs)|(refine al hs (k:=?_);intro b w hz hs)|(refine bs hs (k:=?_);intro b w hz hs)|refine qRg ?_|refine Nx.h ?_|(refine xc_cond rfl (fun hc=>?_) (fun hc=>?_))|fail)
        · exact absurd hq (by simpa using hc)
        · refine loopS_next (i + 1, v5) (by show l.length - (i + 1) < l.length - i; omega) (by (repeat (first | exact agree_nil | (apply agree_cons; first | exact rfl | exact congrArg (Value.int .i64) ei)))) ⟨by show i + 1 ≤ _; omega, ho0.trans (hs.only0 rfl), G, ?_, hGn⟩
          simp only [et]
          exact hG.keep (hs.only0 rfl) (by simp)
      · rw [if_neg hq] at et
        repeat' (first|refine vs (k:=?_)|(refine stA hs (k:=?_);intro w hs)|(refine al hs (k:=?_);intro b w hz hs)|(refine bs hs (k:=?_);intro b w hz hs)|refine qRg ?_|refine Nx.h ?_|(refine xc_cond rfl (fun hc=>?_) (fun hc=>?_))|fail)
        · have hb2 := hs.get At.head
          have ho2 := hs.only0 rfl
          refine xs_appendW tabOk rfl rfl rfl rfl rfl rfl rfl (by decide) (lit_cells (news := q.cells) hb2) (by simp [Value.oneCell']) (hG.keep ho2 (by simp)) (by omega) (by omega) ?_
          intro v5' w4 ⟨G', hG', hGn'⟩ ho4
          have hz4 := ho2.size
          have hz0 := ho0.size
          clear hs
          have hs := St.nil w4
          repeat' (first|refine vs (k:=?_)|refine qRg ?_|refine Nx.h ?_|fail)
          refine loopS_next (i + 1, v5') (by show l.length - (i + 1) < l.length - i; omega) (by (repeat (first | exact agree_nil | (apply agree_cons; first | exact rfl | exact congrArg (Value.int .i64) ei)))) ⟨by show i + 1 ≤ _; omega, ((ho0.trans ho2).news hGn ho4).trans (hs.only0 rfl), G', ?_, ?_⟩
          · simp only [et]
            rw [List.length_append, flatTk_app, show flatTk [q] = q.cells by simp [flatTk]]
            exact hG'.keep (hs.only0 rfl) (by simp)
          · intro k hk
            rcases hGn' k hk with h | h
            · exact hGn k h
            · omega
        · exact absurd (by simpa using hc) hq
    · have e : i = l.length := by omega
      subst e
      rw [List.take_length] at hG
      exact cutB_exit v5 (by (repeat (first | exact agree_nil | (apply agree_cons; exact rfl)))) ⟨ho0, G, hG, hGn⟩
  · rintro v5 env w ⟨ho0, G, hG, hGn⟩
    clear hs
    have hs := St.nil w
    repeat' (first|refine vs (k:=?_)|refine qRg ?_|refine Nx.h ?_|fail)
    first | refine rt (hq := ?_) | refine rt' (hq := ?_)
    have ho3 := hs.only0 rfl
    exact ⟨⟨G, hG.keep ho3 (by simp), hGn⟩, ho0.trans ho3⟩
end Go.Proofs.YtilajmcellffiaaGreatDoorX

namespace Go.Proofs.YtilajmcellffiaaGreatDoorX
open Go Go.RowKit
def IdsOk : Nat → List Tk → Prop
  | _, [] => True
  | k, x :: l => (x.st ≠ 0 → x.id = (k : Int) + 1 ∧ rightT x = true) ∧ IdsOk (k + 1) l
theorem IdsOk.rep : ∀ (m k : Nat), IdsOk k (List.replicate m .zero)
  | 0, _ => trivial
  | m + 1, k => ⟨fun h => absurd rfl h, IdsOk.rep m (k + 1)⟩
theorem IdsOk.set {y : Tk} : ∀ {l : List Tk} {k i : Nat}, IdsOk k l → (y.st ≠ 0 → y.id = (k : Int) + i + 1 ∧ rightT y = true) → IdsOk k (l.set i y)
  | [], k, i, _, _ => by rw [List.set_nil]; trivial
  | x :: l, k, 0, h, hy => ⟨fun hn => by obtain ⟨a, b⟩ := hy hn; exact ⟨by omega, b⟩, h.2⟩
  | x :: l, k, i + 1, h, hy => ⟨h.1, IdsOk.set h.2 (fun hn => by obtain ⟨a, b⟩ := hy hn; exact ⟨by omega, b⟩)⟩
theorem IdsOk.get : ∀ {l : List Tk} {k i : Nat} {x : Tk}, IdsOk k l → l[i]? = some x → x.st ≠ 0 → x.id = (k : Int) + i + 1 ∧ rightT x = true
  | [], _, _, _, _, h, _ => by simp at h
  | y :: l, k, 0, x, hI, h, hn => by
    rw [List.getElem?_cons_zero] at h
    cases h
    obtain ⟨a, b⟩ := hI.1 hn
    exact ⟨by omega, b⟩
  | y :: l, k, i + 1, x, hI, h, hn => by
    rw [List.getElem?_cons_succ] at h
    obtain ⟨a, b⟩ := IdsOk.get hI.2 h hn
    exact ⟨by omega, b⟩
theorem liveT_cons (x : Tk) (l : List Tk) : liveT (x :: l) = if x.st = 0 then liveT l else x :: liveT l := by
  unfold liveT
  rw [List.filter_cons]
  by_cases h : x.st = 0
  · rw [if_pos h]; simp [h]
  · rw [if_neg h]; simp [h]
theorem mem_live {l : List Tk} {x : Tk} (h : x ∈ liveT l) : x.st ≠ 0 ∧ ∃ i : Nat, l[i]? = some x := by
  unfold liveT at h
  obtain ⟨a, b⟩ := List.mem_filter.1 h
  exact ⟨by simpa using b, List.mem_iff_getElem?.1 a⟩
theorem findT_row {l : List Tk} {i : Nat} {x : Tk} (h : l[i]? = some x) : findT l ((i : Int) + 1) = if x.st ≠ 0 then some i else none := by
  have hi : i < l.length := by
    rcases Nat.lt_or_ge i l.length with h1 | h1
    · exact h1
    · rw [List.getElem?_eq_none h1] at h; cases h
  unfold findT
  rw [show ((i : Int) + 1 - 1).toNat = i by omega, List.getD_eq_getElem?_getD, h]
  by_cases hq : x.st = 0
  · rw [if_neg (by simp [hq]), if_neg (by simp [hq])]
  · rw [if_pos ⟨by omega, by omega, by simpa using hq⟩, if_pos hq]
theorem findT_some {l : List Tk} {id : Int} {i : Nat} (h : findT l id = some i) : ∃ x, l[i]? = some x ∧ x.st ≠ 0 ∧ id = (i : Int) + 1 := by
  obtain ⟨hi, rfl⟩ := findT_lt h
  have e := findT_row (List.getElem?_eq_getElem hi)
  rw [h] at e
  refine ⟨l[i], List.getElem?_eq_getElem hi, fun hq => ?_, rfl⟩
  rw [if_neg (by simp [hq])] at e
  cases e
theorem taskT_row {l : List Tk} {i : Nat} {x : Tk} (h : l[i]? = some x) (hx : x.st ≠ 0) : taskT l ((i : Int) + 1) = x := by
  unfold taskT
  rw [findT_row h, if_pos hx]
  show l.getD i .zero = x
  rw [List.getD_eq_getElem?_getD, h]; rfl
theorem live_find {l : List Tk} (hI : IdsOk 0 l) {x : Tk} (h : x ∈ liveT l) : ∃ i, findT l x.id = some i ∧ l[i]? = some x ∧ taskT l x.id = x := by
  obtain ⟨hn, i, hi⟩ := mem_live h
  have e := (hI.get hi hn).1
  have e2 : x.id = (i : Int) + 1 := by omega
  refine ⟨i, ?_, hi, ?_⟩
  · rw [e2, findT_row hi, if_pos hn]
  · rw [e2]; exact taskT_row hi hn
theorem liveIds_set {x y : Tk} (hx : x.st ≠ 0) (hy : y.st ≠ 0) (he : x.id = y.id) : ∀ {l : List Tk} {i : Nat}, l[i]? = some y → (liveT (l.set i x)).map Tk.id = (liveT l).map Tk.id
  | [], i, h => by simp at h
  | z :: l, 0, h => by
    rw [List.getElem?_cons_zero] at h
    cases h
    rw [List.set_cons_zero, liveT_cons, liveT_cons, if_neg hx, if_neg hy, List.map_cons, List.map_cons, he]
  | z :: l, i + 1, h => by
    rw [List.getElem?_cons_succ] at h
    have ih := liveIds_set hx hy he h
    rw [List.set_cons_succ, liveT_cons, liveT_cons]
    by_cases hz : z.st = 0
    · rw [if_pos hz, if_pos hz, ih]
    · rw [if_neg hz, if_neg hz, List.map_cons, List.map_cons, ih]
def statesT (l : List Tk) (ss : List Int) : List Int := ((liveT l).filter fun x => ss.contains x.st).map Tk.id
theorem statesT_all {l : List Tk} {k : Nat} (hI : IdsOk k l) : statesT l [1, 2, 3] = (liveT l).map Tk.id := by
  unfold statesT
  rw [List.filter_eq_self.2 fun x hx => ?_]
  obtain ⟨a, i, b⟩ := mem_live hx
  have h := (hI.get b a).2
  unfold rightT at h
  rw [Bool.and_eq_true, decide_eq_true_iff, decide_eq_true_iff] at h
  have : x.st = 1 ∨ x.st = 2 ∨ x.st = 3 := by omega
  rcases this with e | e | e <;> rw [e] <;> decide
theorem IdsOk.add {l : List Tk} (h : IdsOk 0 l) (x : Tk) : IdsOk 0 (addT l x) := by
  unfold addT
  cases hr : rightT x with
  | false => exact h
  | true => cases e : freeT l with
    | none => exact h
    | some i => exact h.set fun _ => ⟨by show (i : Int) + 1 = _; omega, hr⟩
theorem IdsOk.drop {l : List Tk} (h : IdsOk 0 l) (id : Int) : IdsOk 0 (dropT l id) := by
  unfold dropT
  cases findT l id with
  | none => exact h
  | some i => exact h.set fun hn => absurd rfl hn
theorem IdsOk.sets {l : List Tk} (h : IdsOk 0 l) (x : Tk) : IdsOk 0 (setT l x) := by
  unfold setT
  cases hr : rightT x with
  | false => exact h
  | true => cases e : findT l x.id with
    | none => exact h
    | some i =>
      obtain ⟨_, _, _, e2⟩ := findT_some e
      exact h.set fun _ => ⟨by omega, hr⟩
theorem right_st {x : Tk} (h : rightT x = true) : x.st ≠ 0 := fun e => by unfold rightT at h; rw [e] at h; exact absurd h (by decide)
theorem sets_states {l : List Tk} (h : IdsOk 0 l) (x : Tk) : statesT (setT l x) [1, 2, 3] = statesT l [1, 2, 3] := by
  rw [statesT_all h, statesT_all (h.sets x)]
  unfold setT
  cases hr : rightT x with
  | false => rfl
  | true => cases e : findT l x.id with
    | none => rfl
    | some i =>
      obtain ⟨y, a, b, c⟩ := findT_some e
      exact liveIds_set (right_st hr) b (by have := (h.get a b).1; omega) a
theorem sets_task {l : List Tk} (h : IdsOk 0 l) (x : Tk) {y : Tk} (hy : y ∈ liveT l) : errT (findT (setT l x) y.id) = 0 ∧ taskT (setT l x) y.id = if setE l x = 0 ∧ y.id = x.id then x else y := by
  obtain ⟨j, h1, h2, h3⟩ := live_find h hy
  unfold setT setE
  cases hr : rightT x with
  | false =>
    simp only [cond_false]
    rw [h1, h3]
    exact ⟨rfl, (if_neg (by simp)).symm⟩
  | true =>
    simp only [cond_true]
    cases e : findT l x.id with
    | none =>
      simp only
      rw [h1, h3]
      exact ⟨rfl, (if_neg (by simp [errT])).symm⟩
    | some i =>
      obtain ⟨z, a, b, c⟩ := findT_some e
      obtain ⟨z2, a2, b2, c2⟩ := findT_some h1
      simp only
      by_cases hij : j = i
      · subst hij
        have hl : j < l.length := (findT_lt e).1
        have hg : (l.set j x)[j]? = some x := by rw [List.getElem?_set_self hl]
        have ey : y.id = (j : Int) + 1 := c2
        rw [if_pos ⟨rfl, by omega⟩, ey]
        exact ⟨by rw [findT_row hg, if_pos (right_st hr)]; rfl, taskT_row hg (right_st hr)⟩
      · have hg : (l.set i x)[j]? = some y := by rw [List.getElem?_set_ne (Ne.symm hij)]; exact h2
        have hyn := (mem_live hy).1
        have ey : y.id = (j : Int) + 1 := c2
        rw [if_neg (by omega)]
        refine ⟨?_, ?_⟩
        · rw [ey, findT_row hg, if_pos hyn]; rfl
        · rw [ey]; exact taskT_row hg hyn
end Go.Proofs.YtilajmcellffiaaGreatDoorX

namespace Go.Proofs.YtilajmcellffiaaGreatDoorX
open Go Go.RowKit
def Tk.In (x : Tk) : Prop := In64 x.id ∧ (0 ≤ x.st ∧ x.st < 256) ∧ In64 x.core ∧ (0 ≤ x.w ∧ x.w < 4294967296) ∧ U64 x.slice ∧ In64 x.lag
structure Ac where
  d : Int
  x : Tk
abbrev Ac.cells (a : Ac) : List Value := .int .u8 a.d :: a.x.cells
def Ac.In (a : Ac) : Prop := (0 ≤ a.d ∧ a.d < 256) ∧ a.x.In
instance : Inhabited Ac := ⟨⟨0, .zero⟩⟩
end Go.Proofs.YtilajmcellffiaaGreatDoorX

namespace Go.Proofs.YtilajmcellffiaaGreatDoorX
open Go Go.RowKit Go.ChangeShapes Go.WideShapes Go.ChangeAt
def tkFs : Array Field := #[{ name := "ID", type := 3, offset := 0, embedded := false, tag := "", pkgPath := "", byteOffset := 0 }, { name := "State", type := 5, offset := 1, embedded := false, tag := "", pkgPath := "", byteOffset := 8 }, { name := "Core", type := 3, offset := 2, embedded := false, tag := "", pkgPath := "", byteOffset := 16 }, { name := "W", type := 25, offset := 3, embedded := false, tag := "", pkgPath := "", byteOffset := 24 }, { name := "Slice", type := 22, offset := 4, embedded := false, tag := "", pkgPath := "", byteOffset := 32 }, { name := "Lag", type := 2, offset := 5, embedded := false, tag := "", pkgPath := "", byteOffset := 40 }]
def acFs : Array Field := #[{ name := "Do", type := 5, offset := 0, embedded := false, tag := "", pkgPath := "", byteOffset := 0 }, { name := "X", type := 89, offset := 1, embedded := false, tag := "", pkgPath := "", byteOffset := 8 }]
theorem shape_tk : Tryz.prog.underlying 89 = some (.struct tkFs) := by kernel_rfl
theorem shape_ac : Tryz.prog.underlying 91 = some (.struct acFs) := by kernel_rfl
theorem cellsTk : Tryz.prog.cellsOf 89 = 6 := by kernel_rfl
theorem cellsAc : Tryz.prog.cellsOf 91 = 7 := by kernel_rfl
set_option maxRecDepth 100000 in
theorem dec_tk {H : Type} {enc : TypeId × Value → H} {W : World} {base : Nat} {spare : Nat → Bool} {held : Bool} (fuel : Nat) (cs : List Value) (x) (h : DataW.trod enc Tryz.prog W base spare held fuel 89 cs = some x) : ∃ q : Tk, cs = q.cells ∧ q.In := by
  obtain ⟨xs, n, _, _, hl, hlen, hq⟩ := DataW.trod_struct shape_tk h
  rw [cellsTk] at hl
  match cs, hl with
  | [v0, v1, v2, v3, v4, v5], _ =>
    match xs, hlen with
    | [y0, y1, y2, y3, y4, y5], _ =>
      have c0 : Tryz.prog.cellsOf 3 = 1 := by kernel_rfl
      have c1 : Tryz.prog.cellsOf 5 = 1 := by kernel_rfl
      have c3 : Tryz.prog.cellsOf 25 = 1 := by kernel_rfl
      have c4 : Tryz.prog.cellsOf 22 = 1 := by kernel_rfl
      have c5 : Tryz.prog.cellsOf 2 = 1 := by kernel_rfl
      have h0 := hq 0 _ rfl
      have h1 := hq 1 _ rfl
      have h2 := hq 2 _ rfl
      have h3 := hq 3 _ rfl
      have h4 := hq 4 _ rfl
      have h5 := hq 5 _ rfl
      obtain ⟨a0, e0, _, w0⟩ := DataW.trod_int (t := 3) (k := .i64) (by kernel_rfl) h0
      obtain ⟨a1, e1, _, w1⟩ := DataW.trod_int (t := 5) (k := .u8) (by kernel_rfl) h1
      obtain ⟨a2, e2, _, w2⟩ := DataW.trod_int (t := 3) (k := .i64) (by kernel_rfl) h2
      obtain ⟨a3, e3, _, w3⟩ := DataW.trod_int (t := 25) (k := .u32) (by kernel_rfl) h3
      obtain ⟨a4, e4, _, w4⟩ := DataW.trod_int (t := 22) (k := .u64) (by kernel_rfl) h4
      obtain ⟨a5, e5, _, w5⟩ := DataW.trod_int (t := 2) (k := .i64) (by kernel_rfl) h5
      have q0 : v0 = .int .i64 a0 := by
        have e : List.take (Tryz.prog.cellsOf 3) (List.drop 0 [v0, v1, v2, v3, v4, v5]) = [.int .i64 a0] := e0
        rw [c0] at e; simpa using e
      have q1 : v1 = .int .u8 a1 := by
        have e : List.take (Tryz.prog.cellsOf 5) (List.drop 1 [v0, v1, v2, v3, v4, v5]) = [.int .u8 a1] := e1
        rw [c1] at e; simpa using e
      have q2 : v2 = .int .i64 a2 := by
        have e : List.take (Tryz.prog.cellsOf 3) (List.drop 2 [v0, v1, v2, v3, v4, v5]) = [.int .i64 a2] := e2
        rw [c0] at e; simpa using e
      have q3 : v3 = .int .u32 a3 := by
        have e : List.take (Tryz.prog.cellsOf 25) (List.drop 3 [v0, v1, v2, v3, v4, v5]) = [.int .u32 a3] := e3
        rw [c3] at e; simpa using e
      have q4 : v4 = .int .u64 a4 := by
        have e : List.take (Tryz.prog.cellsOf 22) (List.drop 4 [v0, v1, v2, v3, v4, v5]) = [.int .u64 a4] := e4
        rw [c4] at e; simpa using e
      have q5 : v5 = .int .i64 a5 := by
        have e : List.take (Tryz.prog.cellsOf 2) (List.drop 5 [v0, v1, v2, v3, v4, v5]) = [.int .i64 a5] := e5
        rw [c5] at e; simpa using e
      exact ⟨⟨a0, a1, a2, a3, a4, a5⟩, by rw [q0, q1, q2, q3, q4, q5], rng_i64 w0, rng_u8 w1, rng_i64 w2, rng_u32 w3, rng_u64 w4, rng_i64 w5⟩
set_option maxRecDepth 100000 in
theorem dec_ac {H : Type} {enc : TypeId × Value → H} {W : World} {base : Nat} {spare : Nat → Bool} {held : Bool} (fuel : Nat) (cs : List Value) (x) (h : DataW.trod enc Tryz.prog W base spare held fuel 91 cs = some x) : ∃ q : Ac, cs = q.cells ∧ q.In := by
  obtain ⟨xs, n, _, _, hl, hlen, hq⟩ := DataW.trod_struct shape_ac h
  rw [cellsAc] at hl
  match cs, hl with
  | [v0, v1, v2, v3, v4, v5, v6], _ =>
    match xs, hlen with
    | [y0, y1], _ =>
      have c1 : Tryz.prog.cellsOf 5 = 1 := by kernel_rfl
      have h0 := hq 0 _ rfl
      have h1 := hq 1 _ rfl
      obtain ⟨a0, e0, _, w0⟩ := DataW.trod_int (t := 5) (k := .u8) (by kernel_rfl) h0
      obtain ⟨q, e1, hq1⟩ := dec_tk n _ _ h1
      have q0 : v0 = .int .u8 a0 := by
        have e : List.take (Tryz.prog.cellsOf 5) (List.drop 0 [v0, v1, v2, v3, v4, v5, v6]) = [.int .u8 a0] := e0
        rw [c1] at e; simpa using e
      have q1 : [v1, v2, v3, v4, v5, v6] = q.cells := by
        have e : List.take (Tryz.prog.cellsOf 89) (List.drop 1 [v0, v1, v2, v3, v4, v5, v6]) = q.cells := e1
        rw [cellsTk] at e; simpa using e
      exact ⟨⟨a0, q⟩, by rw [q0, q1], rng_u8 w0, hq1⟩
set_option maxRecDepth 100000 in
theorem open_acts20 {H : Type} {enc : TypeId × Value → H} {W : World} {r : Reach} {b0 base : Nat} {spare : Nat → Bool} {held : Bool} {v : Value} {d : DataW H} {p : List MemPlace} (hv : Value.okWide Tryz.prog W r b0 85 v)
    (h : DataW.Trod enc Tryz.prog W base spare held 85 v d p) : ∃ xs : List Ac, LsX W 7 v (xs.map Ac.cells) ∧ ∀ a ∈ xs, a.In :=
  open_rows (by kernel_rfl) cellsAc (by decide) (fun _ => rfl) dec_ac hv h
set_option maxRecDepth 100000 in
theorem open_task {H : Type} {enc : TypeId × Value → H} {W : World} {r : Reach} {b0 base : Nat} {spare : Nat → Bool} {held : Bool} {v : Value} {d : DataW H} {p : List MemPlace} (hv : Value.okWide Tryz.prog W r b0 89 v)
    (h : DataW.Trod enc Tryz.prog W base spare held 89 v d p) : ∃ x : Tk, x.In ∧ v = tkv x := by
  obtain ⟨cs, rfl, hsz⟩ := okWide_struct shape_tk hv
  obtain ⟨l⟩ := cs
  obtain ⟨fuel, hf⟩ := h
  obtain ⟨q, hq, hI⟩ := dec_tk fuel _ _ hf
  exact ⟨q, hI, congrArg Value.agg (by rw [show (⟨l⟩ : Array Value) = l.toArray from rfl, show l = q.cells from hq])⟩
end Go.Proofs.YtilajmcellffiaaGreatDoorX

namespace Go.Proofs.YtilajmcellffiaaGreatDoorX
open Go Go.RowKit
attribute [local irreducible] XS XC XA thenE blockE retE loopE loopS cutB cutN doneE SE
def x20 : Tk := ⟨0, 1, 0, 0, 0, 0⟩
def l20 (n : Nat) : List Tk := match n with
  | 0 => List.replicate (sizeT 3) .zero
  | 1 => addT (List.replicate (sizeT 3) .zero) x20
  | 2 => addT (addT (List.replicate (sizeT 3) .zero) x20) x20
  | 3 => addT (addT (addT (List.replicate (sizeT 3) .zero) x20) x20) x20
  | _ => dropT (addT (addT (addT (List.replicate (sizeT 3) .zero) x20) x20) x20) 2
theorem a20 : addI (l20 0) x20 = 1 ∧ addE (l20 0) x20 = 0 ∧ addI (l20 1) x20 = 2 ∧ addE (l20 1) x20 = 0 ∧ addI (l20 2) x20 = 3 ∧ addE (l20 2) x20 = 0 ∧ errT (findT (l20 3) 2) = 0 ∧ addI (l20 4) x20 = 2 ∧ addE (l20 4) x20 = 0 := by decide
set_option maxHeartbeats 8000000 in
theorem awake20_ret (w0 : World) (ht : Pows w0) : Ret Tryz.prog 43 #[] w0 fun v w' => v = .bool true ∧ Only [] w0 w' := by
  have hs := St.nil w0
  obtain ⟨e1, e2, e3, e4, e5, e6, e7, e8, e9⟩ := a20
  refine ret_of_xc Tryz.func43 (by kernel_rfl) rfl Tryz.ntmps43 rfl rfl rfl ?_
  repeat' (first|refine vs (k:=?_)|refine qRg ?_|refine Nx.h ?_|fail)
  (with_reducible apply xs_call); exact rfl; exact rfl; exact tnew_ret 3 _
  rintro v w1 ⟨⟨tb, rb, rfl, hT, g1, g2, hne⟩, ho1⟩
  have hoA := (hs.only0 rfl).trans ho1
  have hzA := (hs.only0 rfl).size
  have lr : rb < w1.heap.size := by obtain ⟨_, _, _, h, _⟩ := hT; exact lt_of_block h
  clear hs
  have hs := St.nil w1
  repeat' (first|refine vs (k:=?_)|(refine stA hs (k:=?_);intro w hs)|(refine al hs (k:=?_);intro b w hz hs)|refine qRg ?_|refine Nx.h ?_|fail)
  have gb := hs.new _ List.mem_cons_self rfl
  simp only at gb
  have hnb : b ∉ [rb] := by simp; omega
  have ho0a := hs.onlyF [] (by simp) (by simp [D0])
  (with_reducible apply xs_call); exact rfl; exact rfl; exact tadd_ret tb rb (l20 0) x20 _ (hT.only ho0a)
  rw [e1, e2]
  rintro v w2 ⟨rfl, hT1, ho0b⟩
  have hb0 := ho0b.block (hs.get (b := b) (by repeat (first | exact At.head | (with_reducible apply At.tail)))) hnb
  have hoX0 := (hoA.trans ho0a).step ho0b (fun k hk => .inr (by obtain rfl := List.mem_singleton.1 hk; exact g2))
  clear hs
  have hs := (St.nil w2).trackT hb0
  repeat' (first|refine vs (k:=?_)|refine qRg ?_|refine Nx.h ?_|fail)
  have ho1a := hs.onlyF [] (by simp [hb0]) (by simp [D0])
  (with_reducible apply xs_call); exact rfl; exact rfl; exact tadd_ret tb rb (l20 1) x20 _ (hT1.only ho1a)
  rw [e3, e4]
  rintro v w3 ⟨rfl, hT2, ho1b⟩
  have hb1 := ho1b.block (hs.get (b := b) (by repeat (first | exact At.head | (with_reducible apply At.tail)))) hnb
  have hoX1 := (hoX0.trans ho1a).step ho1b (fun k hk => .inr (by obtain rfl := List.mem_singleton.1 hk; exact g2))
  clear hs
  have hs := (St.nil w3).trackT hb1
  repeat' (first|refine vs (k:=?_)|refine qRg ?_|refine Nx.h ?_|fail)
  have ho2a := hs.onlyF [] (by simp [hb1]) (by simp [D0])
  (with_reducible apply xs_call); exact rfl; exact rfl; exact tadd_ret tb rb (l20 2) x20 _ (hT2.only ho2a)
  rw [e5, e6]
  rintro v w4 ⟨rfl, hT3, ho2b⟩
  have hb2 := ho2b.block (hs.get (b := b) (by repeat (first | exact At.head | (with_reducible apply At.tail)))) hnb
  have hoX2 := (hoX1.trans ho2a).step ho2b (fun k hk => .inr (by obtain rfl := List.mem_singleton.1 hk; exact g2))
  clear hs
  have hs := (St.nil w4).trackT hb2
  repeat' (first|refine vs (k:=?_)|refine qRg ?_|refine Nx.h ?_|fail)
  have ho3a := hs.onlyF [] (by simp [hb2]) (by simp [D0])
  (with_reducible apply xs_call); exact rfl; exact rfl; exact tdrop_ret tb rb (l20 3) 2 _ (hT3.only ho3a) (by decide)
  rw [e7]
  rintro v w5 ⟨rfl, hT4, ho3b⟩
  have hb3 := ho3b.block (hs.get (b := b) (by repeat (first | exact At.head | (with_reducible apply At.tail)))) hnb
  have hoX3 := (hoX2.trans ho3a).step ho3b (fun k hk => .inr (by obtain rfl := List.mem_singleton.1 hk; exact g2))
  clear hs
  have hs := (St.nil w5).trackT hb3
  repeat' (first|refine vs (k:=?_)|refine qRg ?_|refine Nx.h ?_|fail)
  have ho4a := hs.onlyF [] (by simp [hb3]) (by simp [D0])
  (with_reducible apply xs_call); exact rfl; exact rfl; exact tadd_ret tb rb (l20 4) x20 _ (hT4.only ho4a)
  rw [e8, e9]
  rintro v w6 ⟨rfl, hT5, ho4b⟩
  have hb4 := ho4b.block (hs.get (b := b) (by repeat (first | exact At.head | (with_reducible apply At.tail)))) hnb
  have hoX4 := (hoX3.trans ho4a).step ho4b (fun k hk => .inr (by obtain rfl := List.mem_singleton.1 hk; exact g2))
  clear hs
  have hs := (St.nil w6).trackT hb4
  repeat' (first|refine vs (k:=?_)|refine qRg ?_|refine Nx.h ?_|fail)
  have hoL := hs.onlyF [] (by simp [hb4]) (by simp [D0])
  (with_reducible apply xs_call); exact rfl; exact rfl; exact Awake19_ret _ (tab_only ht (hoX4.trans hoL))
  rintro v w' ⟨rfl, ho⟩; replace hs := hs.call0 ho; repeat' (first|refine vs (k:=?_)|refine Nx.h ?_|fail)
  first | refine rt (hq := ?_) | refine rt' (hq := ?_)
  exact ⟨rfl, hoX4.trans (hs.onlyF [] (by simp [hb4]) (by simp [D0]))⟩
end Go.Proofs.YtilajmcellffiaaGreatDoorX

namespace Go.Proofs.YtilajmcellffiaaGreatDoorX
open Go Go.RowKit
attribute [local irreducible] XS XC XA thenE blockE retE loopE loopS cutB cutN doneE SE
end Go.Proofs.YtilajmcellffiaaGreatDoorX

namespace Go.Proofs.YtilajmcellffiaaGreatDoorX
open Go Go.RowKit
attribute [local irreducible] XS XC XA thenE blockE retE loopE loopS cutB cutN doneE SE
def uR (x : Int) : List Value := [.int .u8 x]
theorem has_drop {l : List Int} {x : Int} {i : Nat} (h : i < l.length) : (l.drop i).contains x = (decide (l[i] = x) || (l.drop (i + 1)).contains x) := by
  rw [List.drop_eq_getElem_cons h, List.contains_cons]
  congr 1
  by_cases e : l[i] = x
  · rw [e]; simp
  · rw [decide_eq_false e]; simpa using fun k : x = l[i] => e k.symm
set_option maxHeartbeats 4000000 in
theorem index8_ret (l : List Int) (sl : Value) (x : Int) (hm : l.length ≤ 9223372036854775807) (w0 : World) (hL : LsX w0 1 sl (l.map uR)) : Ret Tryz.prog 127 #[sl, .int .u8 x] w0 fun v w' => (∃ i : Int, v = .int .i64 i ∧ (0 ≤ i ↔ l.contains x = true)) ∧ Only [] w0 w' := by
  obtain ⟨ad, cap, rfl, hD⟩ := hL
  rw [List.length_map] at *
  have hs := St.nil w0
  refine ret_of_xc Tryz.func127 (by kernel_rfl) rfl Tryz.ntmps127 rfl rfl rfl ?_
  repeat' (first|refine vs (k:=?_)|refine qRg ?_|refine Nx.h ?_|fail)
  refine xc_cutB (fun (_ : Unit) => []) (fun _ w => l.contains x = false ∧ Only [] w0 w) ?_ ?_
  · refine xc_loopS (fun (i : Nat) => [(0, .slice ad l.length cap), (1, .int .u8 x), (7, .int .i64 (l.length : Nat)), (8, .int .i64 (i : Nat))]) (fun i w => i ≤ l.length ∧ (l.drop i).contains x = l.contains x ∧ Only [] w0 w) (fun i => l.length - i) 0 (by (repeat (first | exact agree_nil | (apply agree_cons; exact rfl)))) ⟨Nat.zero_le _, by rw [List.drop_zero], hs.only0 rfl⟩ fun i env wl ⟨hi, he, ho0⟩ => ?_
    clear hs
    have hs := St.nil wl
    repeat' (first|refine vs (k:=?_)|refine qRg ?_|refine Nx.h ?_|(refine xc_if rfl (fun hc=>?_) (fun hc=>?_))|fail)
    · have hlt : i < l.length := by omega
      obtain ⟨b, off, cs, E, fz, rfl, hb, hcs⟩ := hD (fun h => by have := congrArg List.length h; rw [List.length_map, List.length_nil] at this; omega)
      have hpk := hcs i (uR l[i]) (by rw [List.getElem?_map, List.getElem?_eq_getElem hlt]; rfl)
      have ei := nx64 (m := l.length) hlt hm
      rw [has_drop hlt] at he
      generalize l[i] = q at *
      refine ix (h0 := (by omega)) (h1 := (by omega)) (k := ?_)
      refine lh (ho0.block hb (by simp)) (by cases hpk; assumption) (k := ?_)
      repeat' (first|refine vs (k:=?_)|refine qRg ?_|refine Nx.h ?_|(refine xc_if rfl (fun hc=>?_) (fun hc=>?_))|fail)
      · have hq : q = x := by have : x = q := by simpa using hc
                              exact this.symm
        rw [decide_eq_true hq, Bool.true_or] at he
        first | refine rt (hq := ?_) | refine rt' (hq := ?_)
        exact ⟨⟨_, rfl, by rw [← he]; exact ⟨fun _ => rfl, fun _ => Int.natCast_nonneg _⟩⟩, ho0.trans (hs.only0 rfl)⟩
      · have hq : ¬ q = x := fun e => by subst e; simp at hc
        rw [decide_eq_false hq, Bool.false_or] at he
        exact loopS_next (i + 1) (by show l.length - (i + 1) < l.length - i; omega) (by (repeat (first | exact agree_nil | (apply agree_cons; first | exact rfl | exact congrArg (Value.int .i64) ei)))) ⟨by show i + 1 ≤ _; omega, he, ho0.trans (hs.only0 rfl)⟩
    · have e : i = l.length := by omega
      subst e
      rw [List.drop_length] at he
      exact cutB_exit () (by (repeat (first | exact agree_nil | (apply agree_cons; exact rfl)))) ⟨he.symm, ho0⟩
  · rintro _ env w ⟨he, ho0⟩
    clear hs
    have hs := St.nil w
    repeat' (first|refine vs (k:=?_)|refine qRg ?_|refine Nx.h ?_|fail)
    first | refine rt (hq := ?_) | refine rt' (hq := ?_)
    exact ⟨⟨_, rfl, by rw [he]; simp⟩, ho0.trans (hs.only0 rfl)⟩
theorem contains8_ret (l : List Int) (sl : Value) (x : Int) (hm : l.length ≤ 9223372036854775807) (w0 : World) (hL : LsX w0 1 sl (l.map uR)) : Ret Tryz.prog 94 #[sl, .int .u8 x] w0 fun v w' => v = .bool (l.contains x) ∧ Only [] w0 w' := by
  have hs := St.nil w0
  refine ret_of_xc Tryz.func94 (by kernel_rfl) rfl Tryz.ntmps94 rfl rfl rfl ?_
  repeat' (first|refine vs (k:=?_)|refine qRg ?_|refine Nx.h ?_|fail)
  (with_reducible apply xs_call); exact rfl; exact rfl; exact index8_ret l sl x hm _ (hL.only (hs.only0 rfl))
  rintro v w' ⟨⟨i, rfl, hi⟩, ho⟩; replace hs := hs.call0 ho
  repeat' (first|refine vs (k:=?_)|refine Nx.h ?_|fail)
  first | refine rt (hq := ?_) | refine rt' (hq := ?_)
  refine ⟨congrArg Value.bool ?_, hs.only0 rfl⟩
  cases h : l.contains x with
  | true => exact decide_eq_true (hi.2 h)
  | false => exact decide_eq_false (fun k => by have := hi.1 k; rw [h] at this; cases this)
theorem statesT_snoc (A : List Tk) (q : Tk) (ss : List Int) : ((A ++ [q]).filter fun x => ss.contains x.st).map Tk.id = if ss.contains q.st = true then ((A.filter fun x => ss.contains x.st).map Tk.id) ++ [q.id] else (A.filter fun x => ss.contains x.st).map Tk.id := by
  rw [List.filter_append, List.filter_cons, List.filter_nil]
  by_cases h : ss.contains q.st = true
  · rw [if_pos h, if_pos h, List.map_append]; rfl
  · rw [if_neg h, if_neg h, List.append_nil]
set_option maxHeartbeats 8000000 in
theorem states_ret (tb rb : Nat) (l : List Tk) (ss : List Int) (sl : Value) (w0 : World) (h : TabAt w0 tb rb l) (hm : ss.length ≤ 9223372036854775807) (hL : LsX w0 1 sl (ss.map uR)) : Ret Tryz.prog 48 #[.pointer (some ⟨tb, 0, none⟩), sl] w0 fun v w' => (∃ G, SlV w' 3 1 v (statesT l ss).length (ints (statesT l ss)) G ∧ ∀ k ∈ G, w0.heap.size ≤ k) ∧ Only [] w0 w' := by
  have hs := St.nil w0
  have hle : (liveT l).length ≤ 32 := by
    obtain ⟨_, _, _, _, h3, _⟩ := h
    have := List.length_filter_le (fun x : Tk => decide (x.st ≠ 0)) l; unfold liveT; omega
  refine ret_of_xc Tryz.func48 (by kernel_rfl) rfl Tryz.ntmps48 rfl rfl rfl ?_
  repeat' (first|refine vs (k:=?_)|refine qRg ?_|refine Nx.h ?_|fail)
  (with_reducible apply xs_call); exact rfl; exact rfl; exact tasks_ret tb rb l _ (h.only (hs.only0 rfl))
  rintro v1 w1 ⟨⟨G1, hG1, hGn1⟩, ho1⟩
  have hoA := (hs.only0 rfl).trans ho1
  obtain ⟨ad, cap, rfl, hD⟩ := SlV.ls hG1 (xs := (liveT l).map Tk.cells) rfl (List.length_map _).symm (fun x hx => by obtain ⟨y, _, rfl⟩ := List.mem_map.1 hx; rfl)
  rw [List.length_map] at *
  unfold statesT
  generalize liveT l = L at *
  clear hs
  have hs := St.nil w1
  repeat' (first|refine vs (k:=?_)|refine Nx.h ?_|fail)
  refine xc_cutB (fun (v3 : Value) => [(5, v3)]) (fun v3 w => Only [] w0 w ∧ ∃ G, SlV w 3 1 v3 ((L.filter fun x => ss.contains x.st).map Tk.id).length (ints ((L.filter fun x => ss.contains x.st).map Tk.id)) G ∧ ∀ k ∈ G, w0.heap.size ≤ k) ?_ ?_
  · refine xc_loopS (fun (x : Nat × Value) => [(1, sl), (5, x.2), (9, .slice ad L.length cap), (10, .int .i64 (L.length : Nat)), (11, .int .i64 (x.1 : Nat))])
      (fun x w => x.1 ≤ L.length ∧ Only [] w0 w ∧ Only [] w1 w ∧ ∃ G, SlV w 3 1 x.2 (((L.take x.1).filter fun x => ss.contains x.st).map Tk.id).length (ints (((L.take x.1).filter fun x => ss.contains x.st).map Tk.id)) G ∧ ∀ k ∈ G, w1.heap.size ≤ k) (fun x => L.length - x.1) (0, .slice none 0 0) (by (repeat (first | exact agree_nil | (apply agree_cons; exact rfl)))) ⟨Nat.zero_le _, hoA.trans (hs.only0 rfl), hs.only0 rfl, [], .inl ⟨rfl, rfl, rfl, rfl⟩, by simp⟩ fun x env wl ⟨hi, ho0, ho10, hT⟩ => ?_
    obtain ⟨i, v5⟩ := x
    simp only at hi hT
    obtain ⟨G, hG, hGn⟩ := hT
    clear hs
    have hs := St.nil wl
    repeat' (first|refine vs (k:=?_)|refine qRg ?_|refine Nx.h ?_|(refine xc_if rfl (fun hc=>?_) (fun hc=>?_))|fail)
    · have hlt : i < L.length := by omega
      obtain ⟨b, off, cs, fz, rfl, _, hb, hcs⟩ := hD (fun h => by rw [List.map_eq_nil_iff.1 h] at hlt; cases hlt)
      have hpk := hcs i (Tk.cells L[i]) (by rw [List.getElem?_map, List.getElem?_eq_getElem hlt]; rfl)
      have ei := nx64 (m := L.length) hlt (by omega)
      have et : ((L.take (i + 1)).filter fun x => ss.contains x.st).map Tk.id = if ss.contains L[i].st = true then (((L.take i).filter fun x => ss.contains x.st).map Tk.id) ++ [L[i].id] else ((L.take i).filter fun x => ss.contains x.st).map Tk.id := by rw [take_next hlt, statesT_snoc]
      have hlG := hG.lt
      have hle2 : (((L.take i).filter fun x => ss.contains x.st).map Tk.id).length ≤ 32 := by
        have := List.length_filter_le (fun x : Tk => ss.contains x.st) (L.take i); rw [List.length_take] at this; rw [List.length_map]; omega
      generalize L[i] = q at *
      generalize ((L.take i).filter fun x => ss.contains x.st).map Tk.id = A at *
      refine ix (h0 := (by omega)) (h1 := (by omega)) (k := ?_)
      refine lhK (vs := q.cells) (ho10.block hb (by simp)) hpk (k := ?_)
      refine al hs (k := ?_); intro b7 w7 hz7 hs
      repeat' (first|refine vs (k:=?_)|(refine stA hs (k:=?_);intro w hs)|refine qRg ?_|refine Nx.h ?_|fail)
      have ho7 := hs.only0 rfl
      have g7 := hs.new _ List.mem_cons_self rfl
      simp only at g7
      (with_reducible apply xs_call); exact rfl; exact rfl; exact contains8_ret ss sl q.st hm _ (hL.only (ho0.trans ho7))
      rintro v8 w8 ⟨rfl, ho8⟩
      have hb7 := ho8.block (hs.get (b := b7) (by repeat (first | exact At.head | (with_reducible apply At.tail)))) (by simp)
      have ho08 := ho0.trans (ho7.trans ho8)
      have ho18 := ho10.trans (ho7.trans ho8)
      have hG8 := hG.keep (ho7.trans ho8) (by simp)
      have hlG8 := hG8.lt
      have hn7 : b7 ∉ G := fun hm => by have := hlG b7 hm; omega
      have hz0 := ho10.size
      have hz8 := (ho7.trans ho8).size
      clear hs
      have hs := (St.nil w8).trackT hb7
      by_cases hq : ss.contains q.st = true
      · rw [if_pos hq] at et
        rw [hq]
        repeat' (first|refine vs (k:=?_)|(refine bs hs (k:=?_);intro b w hz hs)|refine qRg ?_|refine Nx.h ?_|refine qCt ?_|fail)
        have hb2 := hs.get (At.head)
        have ho2 := hs.onlyF [] (by simp [hb7]) (by simp [D0])
        refine xs_appendW tabOk rfl rfl rfl rfl rfl rfl rfl (by decide) (lit_cells (news := [.int .i64 q.id]) hb2) (by simp [Value.oneCell']) (hG8.keep ho2 (by simp)) (by omega) (by omega) ?_
        intro v5' w4 ⟨G', hG', hGn'⟩ ho4
        have hz4 := ho2.size
        clear hs
        have hs := St.nil w4
        repeat' (first|refine vs (k:=?_)|refine qRg ?_|refine Nx.h ?_|fail)
        refine loopS_next (i + 1, v5') (by show L.length - (i + 1) < L.length - i; omega) (by (repeat (first | exact agree_nil | (apply agree_cons; first | exact rfl | exact congrArg (Value.int .i64) ei)))) ⟨by show i + 1 ≤ _; omega, ((ho08.trans ho2).news (fun k hk => by have := hGn k hk; have := hoA.size; omega) ho4).trans (hs.only0 rfl), ((ho18.trans ho2).news hGn ho4).trans (hs.only0 rfl), G', ?_, ?_⟩
        · simp only [et]
          exact SlV.app (w' := w4) (hG'.keep (hs.only0 rfl) (by simp))
        · intro k hk
          rcases hGn' k hk with h | h
          · exact hGn k h
          · omega
      · rw [if_neg hq] at et
        rw [show ss.contains q.st = false by simpa using hq]
        repeat' (first|refine vs (k:=?_)|refine qRg ?_|refine Nx.h ?_|refine qCf ?_|fail)
        have ho2 := hs.onlyF [] (by simp [hb7]) (by simp [D0])
        refine loopS_next (i + 1, v5) (by show L.length - (i + 1) < L.length - i; omega) (by (repeat (first | exact agree_nil | (apply agree_cons; first | exact rfl | exact congrArg (Value.int .i64) ei)))) ⟨by show i + 1 ≤ _; omega, ho08.trans ho2, ho18.trans ho2, G, ?_, hGn⟩
        simp only [et]
        exact hG8.keep ho2 (by simp)
    · have e : i = L.length := by omega
      subst e
      rw [List.take_length] at hG
      exact cutB_exit v5 (by (repeat (first | exact agree_nil | (apply agree_cons; exact rfl)))) ⟨ho0, G, hG, fun k hk => by have := hGn k hk; have := hoA.size; omega⟩
  · rintro v5 env w ⟨ho0, G, hG, hGn⟩
    clear hs
    have hs := St.nil w
    repeat' (first|refine vs (k:=?_)|refine qRg ?_|refine Nx.h ?_|fail)
    first | refine rt (hq := ?_) | refine rt' (hq := ?_)
    have ho3 := hs.only0 rfl
    exact ⟨⟨G, hG.keep ho3 (by simp), hGn⟩, ho0.trans ho3⟩
end Go.Proofs.YtilajmcellffiaaGreatDoorX

namespace Go.Proofs.YtilajmcellffiaaGreatDoorX
open Go Go.RowKit
section
variable {ops : Array Oper} {QE : Exit → Env → World → Prop} {n : Nat} {rest : List Oper} {env : Env} {w : World} {d : Option Nat} {ty : Nat} {pos : String} {aft : Array Edge} {g : Option (Nat × Bool)}
theorem rem8 {t t' : Nat} {x y : Operand} {a b : Int} (h0 : 0 ≤ a) (h2 : 0 < b) (hw : wantedE ops env g = true := by exact rfl) (hx : ev env x = .int .u8 a := by exact rfl) (hy : ev env y = .int .u8 b := by exact rfl)
    (k : XS Tryz.prog ops QE n rest (updO env d (.int .u8 (a % b))) w) : XS Tryz.prog ops QE n (⟨d, .binOp .rem t x y t', ty, pos, aft, g⟩ :: rest) env w :=
  xs_val hw (by rw [r_rem (by omega) hx hy, Int.tmod_eq_emod_of_nonneg h0]) k
theorem eqSN {t t' e : Nat} {x y : Operand} {a : Option Addr} {m c : Nat} (ht : Tryz.prog.underlying t = some (.slice e)) (hw : wantedE ops env g = true := by exact rfl) (hx : ev env x = .slice a m c := by exact rfl) (hy : ev env y = .slice none 0 0 := by exact rfl)
    (k : XS Tryz.prog ops QE n rest (updO env d (.bool a.isNone)) w) : XS Tryz.prog ops QE n (⟨d, .binOp .eql t x y t', ty, pos, aft, g⟩ :: rest) env w :=
  xs_val hw (r_binX (by rw [hx, hy]; simp [eqGuard]) (by
    rw [hx, hy]
    have h : ∀ d : Nat, (Op.equalIn (d + 1) t (.slice a m c) (.slice none 0 0)).run Tryz.prog w = .ok a.isNone w := fun d => by cases a <;> simp [Op.equalIn, run_underlying ht]
    simp only [binOp]
    simp [Op.equal, Op.maxDepth, h 9999])) k
end
end Go.Proofs.YtilajmcellffiaaGreatDoorX

namespace Go.Proofs.YtilajmcellffiaaGreatDoorX
open Go Go.RowKit
attribute [local irreducible] XS XC XA thenE blockE retE loopE loopS cutB cutN doneE SE
section
variable {ops : Array Oper} {QE : Exit → Env → World → Prop} {n : Nat} {rest : List Oper} {env : Env} {w : World}
  {d : Option Nat} {ty : Nat} {pos : String} {aft : Array Edge} {g : Option (Nat × Bool)}
theorem xs_append0 {t e size bytes : Nat} {x y : Operand} {v u : Value} {k : Nat} {xs ys : List Value} {G Gy : List Nat} (hO : SlV w e size v k xs G) (hY : SlV w e size u 0 ys Gy) (hw : wantedE ops env g = true := by exact rfl) (hsl : look t tab.sls = some (e, size, bytes) := by exact rfl)
    (hx : ev env x = v := by exact rfl) (hy : ev env y = u := by exact rfl) (kk : XS Tryz.prog ops QE n rest (updO env d v) w) :
    XS Tryz.prog ops QE n (⟨d, .call { callee := .builtin .append, args := #[x, y], argTypes := #[t, t] }, ty, pos, aft, g⟩ :: rest) env w := by
  obtain ⟨hu, i, hi, hs1, hs2⟩ := sl_parts (tabOk.sl hsl)
  have hr := append_0 (ty := ty) hu hi hO hY
  refine XS.value hw (v := v) (w' := w) ?_ kk
  simp [execOp, resolve, Sem.run_bind, invoke, builtin, hx, hy, hr]
end
theorem flatTk_len (l : List Tk) : (flatTk l).length = l.length * 6 := by
  induction l with
  | nil => rfl
  | cons x l ih => rw [flatTk_cons, List.length_append, ih, List.length_cons]; simp; omega
theorem flatTk_one (l : List Tk) : ∀ u ∈ flatTk l, u.oneCell' = true := fun u hu => by
  unfold flatTk at hu
  obtain ⟨c, hc, hu⟩ := List.mem_flatten.1 hu
  obtain ⟨x, _, rfl⟩ := List.mem_map.1 hc
  simp only [List.mem_cons, List.not_mem_nil, or_false] at hu
  rcases hu with rfl | rfl | rfl | rfl | rfl | rfl <;> rfl
theorem slices_clone_ret (rb cap : Nat) (l : List Tk) (rest : List Value) (w0 : World) (hm : l.length ≤ 32) (hc : l.length ≤ cap) (hl : rest.length + l.length * 6 = cap * 6) (h : w0.heap[rb]? = some (rowsO l rest)) :
    Ret Tryz.prog 97 #[.slice (some ⟨rb, 0, none⟩) l.length cap] w0 fun v w' => (∃ rb' cap' rest', v = .slice (some ⟨rb', 0, none⟩) l.length cap' ∧ w'.heap[rb']? = some (rowsO l rest') ∧ l.length ≤ cap' ∧ rest'.length + l.length * 6 = cap' * 6 ∧ w0.heap.size ≤ rb') ∧ Only [] w0 w' := by
  have hs := St.nil w0
  refine ret_of_xc Tryz.func97 (by kernel_rfl) rfl Tryz.ntmps97 rfl rfl rfl ?_
  repeat' (first|refine vs (k:=?_)|refine qRg ?_|refine Nx.h ?_|fail)
  refine eqSN (e := 89) (by kernel_rfl) (k := ?_)
  repeat' (first|refine qRg ?_|refine Nx.h ?_|refine qCf ?_|fail)
  refine xs_buildSlice0 tabOk rfl rfl hs (fun v w1 hO hne => ?_)
  rcases hO with ⟨rfl, _⟩ | ⟨g, cp, cur, rfl, hcp, hcl, _, _, hs1⟩
  · exact absurd rfl hne
  have hg := hs1.get At.head
  have gg := hs1.new _ List.mem_cons_self rfl
  simp only at gg
  have ho1 := hs1.only0 rfl
  have hO : SlV w1 89 6 (.slice (some ⟨g, 0, none⟩) 0 cp) 0 [] [g] := .inr ⟨g, cp, cur, rfl, rfl, hcp, hcl, rfl, rfl, hg⟩
  have hY : SlV w1 89 6 (.slice (some ⟨rb, 0, none⟩) l.length cap) l.length (flatTk l) [rb] := .inr ⟨rb, cap, flatTk l ++ rest, rfl, rfl, hc, by rw [List.length_append, flatTk_len]; omega, flatTk_len l, by rw [← flatTk_len]; exact List.take_left, ho1.block h (by simp)⟩
  clear hs
  have hs := St.nil w1
  refine vs (k := ?_)
  by_cases h0 : l.length = 0
  · obtain rfl := List.length_eq_zero_iff.1 h0
    refine xs_append0 hO hY (kk := ?_)
    repeat' (first|refine vs (k:=?_)|refine Nx.h ?_|fail)
    first | refine rt (hq := ?_) | refine rt' (hq := ?_)
    have ho2 := hs.only0 rfl
    exact ⟨⟨g, cp, cur, rfl, ho2.block hg (by simp), Nat.zero_le _, by simpa using hcl, gg⟩, ho1.trans ho2⟩
  · refine xs_appendL tabOk rfl rfl rfl rfl rfl rfl (flatTk_one l) hO hY (by omega) (by omega) ?_
    rintro v2 w2 ⟨G', hG', hGn⟩ ho2
    rw [Nat.zero_add, List.nil_append] at hG'
    rcases hG' with ⟨_, h1, _⟩ | ⟨g2, cp2, cur2, rfl, rfl, k1, k2, k3, k4, k5⟩
    · exact absurd h1 h0
    clear hs
    have hs := St.nil w2
    repeat' (first|refine vs (k:=?_)|refine Nx.h ?_|fail)
    first | refine rt (hq := ?_) | refine rt' (hq := ?_)
    have ho3 := hs.only0 rfl
    have ho := (ho1.step ho2 (fun k hk => .inr (by obtain rfl := List.mem_singleton.1 hk; exact gg))).trans ho3
    refine ⟨⟨g2, cp2, cur2.drop (l.length * 6), rfl, ?_, k1, by rw [List.length_drop]; omega, ?_⟩, ho⟩
    · rw [ho3.block k5 (by simp)]
      unfold rowsO
      rw [← k4, List.take_append_drop]
    · have hz := ho1.size
      rcases hGn g2 (by simp) with h | h
      · obtain rfl := List.mem_singleton.1 h; exact gg
      · omega
theorem tclone_ret (tb rb : Nat) (l : List Tk) (w0 : World) (h : TabAt w0 tb rb l) : Ret Tryz.prog 54 #[.pointer (some ⟨tb, 0, none⟩)] w0 fun v w' => (∃ tb' rb', v = .pointer (some ⟨tb', 0, none⟩) ∧ TabAt w' tb' rb' l ∧ w0.heap.size ≤ tb' ∧ w0.heap.size ≤ rb' ∧ tb' ≠ rb') ∧ Only [] w0 w' := by
  obtain ⟨cap, rest, h1, h2, h3, h4, h5⟩ := h
  have hs := (St.nil w0).trackT h1
  refine ret_of_xc Tryz.func54 (by kernel_rfl) rfl Tryz.ntmps54 rfl rfl rfl ?_
  repeat' (first|refine vs (k:=?_)|refine qRg ?_|refine Nx.h ?_|refine qCf ?_|fail)
  have ho0 := hs.onlyF [] (by simp [h1]) (by simp [D0])
  (with_reducible apply xs_call); exact rfl; exact rfl; exact slices_clone_ret rb cap l rest _ h3 h4 h5 (ho0.block h2 (by simp))
  rintro v w1 ⟨⟨rb', cap', rest', rfl, k1, k2, k3, k4⟩, ho1⟩
  have lr := lt_of_block k1
  have hz := ho0.size
  clear hs
  have hs := (St.nil w1)
  refine vs (k := ?_)
  refine bx hs (k := ?_); intro tb' w2 hz2 hs
  have g2 := hs.new _ List.mem_cons_self rfl
  simp only at g2
  have hz1 := ho1.size
  repeat' (first|refine vs (k:=?_)|refine Nx.h ?_|fail)
  first | refine rt (hq := ?_) | refine rt' (hq := ?_)
  have ho2 := hs.only0 rfl
  exact ⟨⟨tb', rb', rfl, ⟨cap', rest', hs.get At.head, ho2.block k1 (by simp), h3, k2, k3⟩, by omega, by omega, by omega⟩, (ho0.trans ho1).trans ho2⟩
end Go.Proofs.YtilajmcellffiaaGreatDoorX

namespace Go.Proofs.YtilajmcellffiaaGreatDoorX
open Go Go.RowKit
attribute [local irreducible] XS XC XA thenE blockE retE loopE loopS cutB cutN doneE SE
end Go.Proofs.YtilajmcellffiaaGreatDoorX

namespace Go.Proofs.YtilajmcellffiaaGreatDoorX
open Go Go.RowKit
attribute [local irreducible] XS XC XA thenE blockE retE loopE loopS cutB cutN doneE SE
set_option maxHeartbeats 4000000 in
theorem eqI_ret (va vb : Value) (A B : List Int) (hm : A.length ≤ 9223372036854775807) (w0 : World) (hA : LsAt w0 3 1 va (A.map intR)) (hB : LsAt w0 3 1 vb (B.map intR)) :
    Ret Tryz.prog 57 #[va, vb] w0 fun v w' => v = .bool (decide (A = B)) ∧ Only [] w0 w' := by
  obtain ⟨ada, ca, rfl, hA⟩ := hA
  obtain ⟨adb, cb, rfl, hB⟩ := hB
  rw [List.length_map] at *
  rw [List.length_map] at *
  have hs := St.nil w0
  refine ret_of_xc Tryz.func57 (by kernel_rfl) rfl Tryz.ntmps57 rfl rfl rfl ?_
  repeat' (first|refine vs (k:=?_)|refine qRg ?_|refine Nx.h ?_|(refine xc_cond rfl (fun hc=>?_) (fun hc=>?_))|fail)
  · first | refine rt (hq := ?_) | refine rt' (hq := ?_)
    refine ⟨congrArg Value.bool ?_, hs.only0 rfl⟩
    have hne : A ≠ B := fun e => by subst e; simp at hc
    exact (decide_eq_false hne).symm
  · have hln : A.length = B.length := by
      have h : ((A.length : Nat) : Int) = B.length := by simpa using hc
      omega
    refine xc_cutB (fun _ : Unit => []) (fun _ w => A = B ∧ Only [] w0 w) ?_ ?_
    · refine xc_loopS (fun (i : Nat) => [(0, .slice ada A.length ca), (1, .slice adb B.length cb), (12, .int .i64 (A.length : Nat)), (13, .int .i64 (i : Nat))])
        (fun i w => i ≤ A.length ∧ A.take i = B.take i ∧ Only [] w0 w)
        (fun i => A.length - i) 0 (by (repeat (first | exact agree_nil | (apply agree_cons; exact rfl)))) ⟨Nat.zero_le _, by simp, hs.only0 rfl⟩ fun i env w ⟨hi, ht, ho⟩ => ?_
      clear hs
      have hs := St.nil w
      repeat' (first|refine vs (k:=?_)|refine qRg ?_|refine Nx.h ?_|(refine xc_if rfl (fun hc=>?_) (fun hc=>?_))|fail)
      · have hlt : i < A.length := by omega
        have hltB : i < B.length := by omega
        obtain ⟨ba, oa, csa, fa, rfl, a2, a3, a4⟩ := hA (fun h => by have := congrArg List.length h; rw [List.length_map, List.length_nil] at this; omega)
        obtain ⟨bb, ob, csb, fb, rfl, b2, b3, b4⟩ := hB (fun h => by have := congrArg List.length h; rw [List.length_map, List.length_nil] at this; omega)
        have ga := a4 i _ (by rw [List.getElem?_map, List.getElem?_eq_getElem hlt]; rfl)
        have gb := b4 i _ (by rw [List.getElem?_map, List.getElem?_eq_getElem hltB]; rfl)
        have a3 := ho.block a3 (by simp)
        have b3 := ho.block b3 (by simp)
        have key : A[i] = B[i] → A.take (i + 1) = B.take (i + 1) := fun he => by rw [List.take_add_one, List.take_add_one, ht, List.getElem?_eq_getElem hlt, List.getElem?_eq_getElem hltB, he]
        have key2 : A[i] ≠ B[i] → A ≠ B := fun h e => h (by subst e; rfl)
        have ei := nx64 hlt hm
        generalize A[i] = x at *
        generalize B[i] = y at *
        by_cases e : ba = bb
        · subst e
          rw [a3] at b3
          cases b3
          replace hs := hs.track a3 (by simp)
          refine dr [] hs (k := ?_); intro hX w hs
          refine tk 0 hX (k := ?_)
          refine tk 1 hX (k := ?_)
          refine tk 2 hX (hr := fun w' hH => r_indexAddr tabOk rfl rfl rfl (by omega) (by omega)) (k := ?_)
          refine tk 3 hX (hr := fun w' hH => r_load tabOk rfl rfl (hH rfl) At.head (by cases ga; assumption)) (k := ?_)
          refine tk 4 hX (k := ?_)
          refine tk 5 hX (k := ?_)
          refine tk 6 hX (hr := fun w' hH => r_indexAddr tabOk rfl rfl rfl (by omega) (by omega)) (k := ?_)
          refine tk 7 hX (hr := fun w' hH => r_load tabOk rfl rfl (hH rfl) At.head (by cases gb; assumption)) (k := ?_)
          refine tk 8 hX (k := ?_)
          refine en (k := ?_)
          repeat' (first|refine vs (k:=?_)|refine qRg ?_|refine Nx.h ?_|(refine xc_cond rfl (fun hc=>?_) (fun hc=>?_))|fail)
          · first | refine rt (hq := ?_) | refine rt' (hq := ?_)
            exact ⟨congrArg Value.bool (decide_eq_false (key2 (by simpa using hc))).symm, ho.step (hs.onlyF [] (by simp [a3]) (by simp [D0])) (by simp)⟩
          · exact loopS_next (i + 1) (by omega) (by (repeat (first | exact agree_nil | (apply agree_cons; first | exact rfl | exact congrArg (Value.int .i64) ei)))) ⟨by omega, key (by simpa using hc), ho.step (hs.onlyF [] (by simp [a3]) (by simp [D0])) (by simp)⟩
        · replace hs := (hs.track a3 (by simp)).track b3 (by simpa using Ne.symm e)
          refine dr [] hs (k := ?_); intro hX w hs
          refine tk 0 hX (k := ?_)
          refine tk 1 hX (k := ?_)
          refine tk 2 hX (hr := fun w' hH => r_indexAddr tabOk rfl rfl rfl (by omega) (by omega)) (k := ?_)
          refine tk 3 hX (hr := fun w' hH => r_load tabOk rfl rfl (hH rfl) (At.tail At.head) (by cases ga; assumption)) (k := ?_)
          refine tk 4 hX (k := ?_)
          refine tk 5 hX (k := ?_)
          refine tk 6 hX (hr := fun w' hH => r_indexAddr tabOk rfl rfl rfl (by omega) (by omega)) (k := ?_)
          refine tk 7 hX (hr := fun w' hH => r_load tabOk rfl rfl (hH rfl) At.head (by cases gb; assumption)) (k := ?_)
          refine tk 8 hX (k := ?_)
          refine en (k := ?_)
          repeat' (first|refine vs (k:=?_)|refine qRg ?_|refine Nx.h ?_|(refine xc_cond rfl (fun hc=>?_) (fun hc=>?_))|fail)
          · first | refine rt (hq := ?_) | refine rt' (hq := ?_)
            exact ⟨congrArg Value.bool (decide_eq_false (key2 (by simpa using hc))).symm, ho.step (hs.onlyF [] (by simp [a3, b3]) (by simp [D0])) (by simp)⟩
          · exact loopS_next (i + 1) (by omega) (by (repeat (first | exact agree_nil | (apply agree_cons; first | exact rfl | exact congrArg (Value.int .i64) ei)))) ⟨by omega, key (by simpa using hc), ho.step (hs.onlyF [] (by simp [a3, b3]) (by simp [D0])) (by simp)⟩
      · have e : i = A.length := by omega
        have hAB : A = B := by
          have h1 : A.take i = A := List.take_of_length_le (by omega)
          have h2 : B.take i = B := List.take_of_length_le (by omega)
          rw [← h1, ht, h2]
        exact cutB_exit () (by (repeat (first | exact agree_nil | (apply agree_cons; exact rfl)))) ⟨hAB, ho.step (hs.only0 rfl) (by simp)⟩
    · rintro _ env w ⟨rfl, ho⟩
      clear hs
      have hs := St.nil w
      repeat' (first|refine vs (k:=?_)|refine qRg ?_|refine Nx.h ?_|fail)
      first | refine rt (hq := ?_) | refine rt' (hq := ?_)
      exact ⟨congrArg Value.bool (decide_eq_true rfl).symm, ho.step (hs.only0 rfl) (by simp)⟩
theorem SlV.lsI {w : World} {v : Value} {A : List Int} {G : List Nat} (h : SlV w 3 1 v A.length (ints A) G) : LsAt w 3 1 v (A.map intR) :=
  SlV.ls h (by rw [flat_int]; rfl) (List.length_map _).symm (fun x hx => by obtain ⟨y, _, rfl⟩ := List.mem_map.1 hx; rfl)
end Go.Proofs.YtilajmcellffiaaGreatDoorX

namespace Go.Proofs.YtilajmcellffiaaGreatDoorX
open Go Go.RowKit
attribute [local irreducible] XS XC XA thenE blockE retE loopE loopS cutB cutN doneE SE
theorem TabAt.lt {w : World} {tb rb : Nat} {l : List Tk} (h : TabAt w tb rb l) : tb < w.heap.size ∧ rb < w.heap.size := by
  obtain ⟨cap, rest, h1, h2, _⟩ := h
  exact ⟨lt_of_block h1, lt_of_block h2⟩
theorem eqTk (p q : Tk) : (cellEq (.int .i64 p.id) (.int .i64 q.id) && (cellEq (.int .u8 p.st) (.int .u8 q.st) && (cellEq (.int .i64 p.core) (.int .i64 q.core) && (cellEq (.int .u32 p.w) (.int .u32 q.w) && (cellEq (.int .u64 p.slice) (.int .u64 q.slice) && cellEq (.int .i64 p.lag) (.int .i64 q.lag)))))) = decide (p = q) := by
  show ((p.id == q.id) && ((p.st == q.st) && ((p.core == q.core) && ((p.w == q.w) && ((p.slice == q.slice) && (p.lag == q.lag)))))) = _
  obtain ⟨a, b, c, d, e, f⟩ := p
  obtain ⟨a', b', c', d', e', f'⟩ := q
  rw [Bool.eq_iff_iff, decide_eq_true_iff]
  simp only [Bool.and_eq_true, beq_iff_eq, Tk.mk.injEq]
theorem lit3 {w : World} {b : Nat} (hb : w.heap[b]? = some (.cells #[.int .u8 1, .int .u8 2, .int .u8 3] 5 (0, 0))) : LsX w 1 (.slice (some ⟨b, 0, none⟩) 3 3) ([1, 2, 3].map uR) :=
  (lit_ls (e := 5) (n := 3) (k := 1) (xs := [1, 2, 3].map uR) hb rfl (fun x hx => by obtain ⟨e, _, rfl⟩ := List.mem_map.1 hx; rfl) rfl).x
def act20 (l : List Tk) (a : Ac) : List Tk := if a.d % 6 = 4 then dropT l a.x.id else addT l a.x
theorem IdsOk.act {l : List Tk} (h : IdsOk 0 l) (a : Ac) : IdsOk 0 (act20 l a) := by
  unfold act20
  split
  · exact h.drop _
  · exact h.add _
set_option maxHeartbeats 8000000 in
theorem tableSets_ret (n : Int) (xs : List Ac) (x : Tk) (sl : Value) (hn : In64 n) (hx : ∀ a ∈ xs, a.In) (hI : x.In) (w0 : World) (hL : LsX w0 7 sl (xs.map Ac.cells)) (ht : Pows w0) : Ret Tryz.prog 11 #[.int .i64 n, sl, tkv x] w0 fun v w' => v = .bool true ∧ Only [] w0 w' := by
  obtain ⟨ad, cap, rfl, hD⟩ := hL
  rw [List.length_map]
  have hs := St.nil w0
  refine ret_of_xc Tryz.func11 (by kernel_rfl) rfl Tryz.ntmps11 rfl rfl rfl ?_
  refine xc_seq ?_
  refine xc_region ?_ ?_; exact rfl
  refine bx hs (k := ?_); intro b5 w5 hz5 hs
  have h5 := hs.get At.head
  have g5 := hs.new _ List.mem_cons_self rfl
  simp only at g5
  have l5 := lt_of_block h5
  have ho5 := hs.only0 rfl
  clear hs
  have hs := St.nil w5
  repeat' (first|refine vs (k:=?_)|refine qRg ?_|refine Nx.h ?_|fail)
  (with_reducible apply xs_call); exact rfl; exact rfl; exact awake20_ret _ (tab_only ht (ho5.trans (hs.only0 rfl)))
  rintro v w' ⟨rfl, ho⟩; replace hs := hs.call0 ho; repeat' (first|refine vs (k:=?_)|refine qRg ?_|refine Nx.h ?_|refine qCf ?_|(refine xc_if rfl (fun hc=>?_) (fun hc=>?_))|fail)
  · first | refine rt (hq := ?_) | refine rt' (hq := ?_)
    exact ⟨rfl, ho5.trans (hs.only0 rfl)⟩
  have hm : xs.length ≤ 100 := by omega
  (with_reducible apply xs_call); exact rfl; exact rfl; exact tnew_ret n _
  rintro v w1 ⟨⟨tb, rb, rfl, hT, g1, g2, hne⟩, ho1⟩
  have hoA := (hs.only0 rfl).trans ho1
  have hz := (hs.only0 rfl).size
  clear hs
  have hs := St.nil w1
  repeat' (first|refine vs (k:=?_)|refine qRg ?_|refine Nx.h ?_|fail)
  refine xc_cutB (fun (_ : List Tk) => [(5, .pointer (some ⟨b5, 0, none⟩)), (7, .pointer (some ⟨tb, 0, none⟩))]) (fun l w => IdsOk 0 l ∧ TabAt w tb rb l ∧ Only [] w5 w) ?_ ?_
  · refine xc_loopS (fun (x : Nat × List Tk) => [(5, .pointer (some ⟨b5, 0, none⟩)), (7, .pointer (some ⟨tb, 0, none⟩)), (26, .slice ad xs.length cap), (27, .int .i64 (xs.length : Nat)), (28, .int .i64 (x.1 : Nat))])
      (fun x w => x.1 ≤ xs.length ∧ IdsOk 0 x.2 ∧ TabAt w tb rb x.2 ∧ Only [] w5 w) (fun x => xs.length - x.1) (0, List.replicate (sizeT n) .zero) (by (repeat (first | exact agree_nil | (apply agree_cons; exact rfl)))) ⟨Nat.zero_le _, IdsOk.rep _ _, hT.only (hs.only0 rfl), hoA.trans (hs.only0 rfl)⟩ fun x env wl ⟨hi, hI0, hT, ho0⟩ => ?_
    obtain ⟨i, l⟩ := x
    simp only at hi hI0 hT
    clear hs
    have hs := St.nil wl
    repeat' (first|refine vs (k:=?_)|refine qRg ?_|refine Nx.h ?_|(refine xc_if rfl (fun hc=>?_) (fun hc=>?_))|fail)
    · have hlt : i < xs.length := by omega
      obtain ⟨b, off, cs, E, fz, rfl, hb, hcs⟩ := hD (fun h => by have := congrArg List.length h; rw [List.length_map, List.length_nil] at this; omega)
      have hpk := hcs i (Ac.cells xs[i]) (by rw [List.getElem?_map, List.getElem?_eq_getElem hlt]; rfl)
      have ei := nx64 (m := xs.length) hlt (by omega)
      obtain ⟨⟨d0, d1⟩, hq⟩ := hx xs[i] (List.getElem_mem hlt)
      obtain ⟨i1, ⟨s0, s1⟩, _⟩ := hq
      generalize xs[i] = q at *
      refine ix (h0 := (by omega)) (h1 := (by omega)) (k := ?_)
      refine lhK (vs := q.cells) ((ho5.trans ho0).block hb (by simp)) hpk (k := ?_)
      refine al hs (k := ?_); intro b9 w6 hz6 hs
      refine stA hs (k := ?_); intro w7 hs
      repeat' (first|refine vs (k:=?_)|refine qRg ?_|refine Nx.h ?_|fail)
      refine rem8 (b := 6) d0 (by decide) (k := ?_)
      repeat' (first|refine vs (k:=?_)|refine qRg ?_|refine Nx.h ?_|(refine xc_if rfl (fun hc=>?_) (fun hc=>?_))|fail)
      · have hd : q.d % 6 = 4 := by simpa using hc
        have ho3 := hs.only0 rfl
        have eA : act20 l q = dropT l q.x.id := if_pos hd
        (with_reducible apply xs_call); exact rfl; exact rfl; exact tdrop_ret tb rb l q.x.id _ (hT.only ho3) i1
        rintro v w3 ⟨rfl, hT3, ho4⟩
        have hoB := (ho0.trans ho3).step ho4 (fun k hk => .inr (by obtain rfl := List.mem_singleton.1 hk; omega))
        clear hs
        have hs := St.nil w3
        repeat' (first|refine vs (k:=?_)|refine qRg ?_|refine Nx.h ?_|fail)
        exact loopS_next (i + 1, act20 l q) (by show xs.length - (i + 1) < xs.length - i; omega) (by (repeat (first | exact agree_nil | (apply agree_cons; first | exact rfl | exact congrArg (Value.int .i64) ei)))) ⟨by show i + 1 ≤ _; omega, hI0.act q, by rw [← eA] at hT3; exact hT3.only (hs.only0 rfl), hoB.trans (hs.only0 rfl)⟩
      · have hd : ¬ q.d % 6 = 4 := fun e => by rw [e] at hc; exact absurd hc (by decide)
        have ho3 := hs.only0 rfl
        have eA : act20 l q = addT l q.x := if_neg hd
        (with_reducible apply xs_call); exact rfl; exact rfl; exact tadd_ret tb rb l q.x _ (hT.only ho3)
        rintro v w3 ⟨rfl, hT3, ho4⟩
        have hoB := (ho0.trans ho3).step ho4 (fun k hk => .inr (by obtain rfl := List.mem_singleton.1 hk; omega))
        clear hs
        have hs := St.nil w3
        repeat' (first|refine vs (k:=?_)|refine qRg ?_|refine Nx.h ?_|fail)
        exact loopS_next (i + 1, act20 l q) (by show xs.length - (i + 1) < xs.length - i; omega) (by (repeat (first | exact agree_nil | (apply agree_cons; first | exact rfl | exact congrArg (Value.int .i64) ei)))) ⟨by show i + 1 ≤ _; omega, hI0.act q, by rw [← eA] at hT3; exact hT3.only (hs.only0 rfl), hoB.trans (hs.only0 rfl)⟩
    · exact cutB_exit l (by (repeat (first | exact agree_nil | (apply agree_cons; exact rfl)))) ⟨hI0, hT, ho0⟩
  clear hT hs
  rintro l env w2 ⟨hI0, hT, ho0⟩
  have k5 := ho0.block h5 (by simp)
  have hs := (St.nil w2).trackT k5
  repeat' (first|refine vs (k:=?_)|refine qRg ?_|refine Nx.h ?_|fail)
  have hoB := hs.onlyF [] (by simp [k5]) (by simp [D0])
  (with_reducible apply xs_call); exact rfl; exact rfl; exact tclone_ret tb rb l _ (hT.only hoB)
  rintro v w3 ⟨⟨tb2, rb2, rfl, hC, c1, c2, c3⟩, ho3⟩
  have hoC := hoB.trans ho3
  have lt2 := hT.lt
  have hzB := hoB.size
  have hT3 := hT.only hoC
  have m5 := hoC.block k5 (by simp)
  have hoD := ho0.trans hoC
  clear hs
  have hs := (St.nil w3).trackT m5
  repeat' (first|refine vs (k:=?_)|refine qRg ?_|refine Nx.h ?_|fail)
  have hoE := hs.onlyF [] (by simp [m5]) (by simp [D0])
  (with_reducible apply xs_call); exact rfl; exact rfl; exact ttask_ret tb rb l x.id _ (hT3.only hoE) hI.1
  rintro v w' ⟨rfl, ho⟩; replace hs := hs.call0 ho; repeat' (first|refine vs (k:=?_)|(refine stA hs (k:=?_);intro w hs)|(refine al hs (k:=?_);intro b w hz hs)|refine qRg ?_|refine Nx.h ?_|fail)
  have hoF := hs.onlyF [] (by simp [m5]) (by simp [D0])
  (with_reducible apply xs_call); exact rfl; exact rfl; exact tset_ret tb rb l x _ (hT3.only hoF) hI.1
  rintro v w4 ⟨rfl, hT4, ho4⟩
  have n5 := ho4.block (hoF.block m5 (by simp)) (by simp; omega)
  have hC4 := (hC.only hoF).keep ho4 (by simp; omega) (by simp; omega)
  have hoG := (hoD.trans hoF).step ho4 (fun k hk => .inr (by obtain rfl := List.mem_singleton.1 hk; omega))
  clear hs
  have hs := (St.nil w4).trackT n5
  refine vs (k := ?_)
  repeat' (first|refine Nx.h ?_|fail)
  refine xc_cutN (fun _ : Unit => [(5, .pointer (some ⟨b5, 0, none⟩)), (7, .pointer (some ⟨tb, 0, none⟩)), (10, .pointer (some ⟨tb2, 0, none⟩)), (12, .int .i64 (errT (findT l x.id))), (13, .int .i64 (setE l x)), (14, .bool (rightT x))]) (fun _ w => Only [] w4 w) ?_ ?_
  · refine xc_region ?_ ?_; exact rfl
    iterate 3 refine vs (k := ?_)
    have eR : rightT x = (decide (1 ≤ x.st) && decide (x.st ≤ 3)) := rfl
    by_cases r1 : 1 ≤ x.st
    · rw [decide_eq_true r1, Bool.true_and] at eR
      rw [decide_eq_true (show x.st ≥ 1 from r1)]
      repeat' (first|refine vs (k:=?_)|refine Nx.h ?_|fail)
      exact cutN_normal () (by rw [eR]; (repeat (first | exact agree_nil | (apply agree_cons; exact rfl)))) (hs.onlyF [] (by simp [n5]) (by simp [D0]))
    · rw [decide_eq_false r1, Bool.false_and] at eR
      rw [decide_eq_false (show ¬ x.st ≥ 1 from r1)]
      repeat' (first|refine vs (k:=?_)|refine ps (k:=?_)|refine Nx.h ?_|fail)
      exact cutN_normal () (by rw [eR]; (repeat (first | exact agree_nil | (apply agree_cons; exact rfl)))) (hs.onlyF [] (by simp [n5]) (by simp [D0]))
  clear hs
  rintro _ env w6 ho6
  have q5 := ho6.block n5 (by simp)
  have hT6 := hT4.only ho6
  have hC6 := hC4.only ho6
  have hoH := hoG.trans ho6
  have hs := (St.nil w6).trackT q5
  have hSl : (statesT l [1, 2, 3]).length ≤ 9223372036854775807 := by
    obtain ⟨_, _, _, _, h3, _⟩ := hT
    unfold statesT
    rw [List.length_map]
    have k1 := List.length_filter_le (fun x : Tk => [1, 2, 3].contains x.st) (liveT l)
    have k2 : (liveT l).length ≤ l.length := List.length_filter_le (fun x : Tk => decide (x.st ≠ 0)) l
    omega
  have eQ := sets_states hI0 x
  refine xc_seq ?_
  refine xc_seq ?_
  refine xc_cutN (fun _ : Unit => [(5, .pointer (some ⟨b5, 0, none⟩)), (7, .pointer (some ⟨tb, 0, none⟩)), (10, .pointer (some ⟨tb2, 0, none⟩)), (13, .int .i64 (setE l x)), (89, .bool false)]) (fun _ w => Only [] w6 w) ?_ ?_
  · refine xc_region ?_ ?_; exact rfl
    cases hr : rightT x
    · have e2 : setE l x = 2 := by unfold setE; rw [hr]; rfl
      rw [e2]
      iterate 15 (first|refine vs (k:=?_)|refine ps (k:=?_))
      refine vs (k := ?_)
      refine bs hs (k := ?_); intro b82 w82 hz82 hs
      have hoa := hs.onlyF [] (by simp [q5]) (by simp [D0])
      (with_reducible apply xs_call); exact rfl; exact rfl; exact states_ret tb2 rb2 l [1, 2, 3] _ _ (hC6.only hoa) (by decide) (lit3 (hs.get At.head))
      rintro v w7 ⟨⟨Ga, hGa, hna⟩, ho7⟩
      have hob := hoa.trans ho7
      clear hs
      have hs := St.nil w7
      refine vs (k := ?_)
      refine bs hs (k := ?_); intro b85 w85 hz85 hs
      have hoc := hs.only0 rfl
      (with_reducible apply xs_call); exact rfl; exact rfl; exact states_ret tb rb (setT l x) [1, 2, 3] _ _ ((hT6.only hob).only hoc) (by decide) (lit3 (hs.get At.head))
      rintro v2 w8 ⟨⟨Gb, hGb, hnb⟩, ho8⟩
      have hoe := hoc.trans ho8
      clear hs
      have hs := St.nil w8
      rw [eQ] at hGb
      (with_reducible apply xs_call); exact rfl; exact rfl; exact eqI_ret _ _ (statesT l [1, 2, 3]) (statesT l [1, 2, 3]) hSl _ (hGa.keep hoe (by simp)).lsI hGb.lsI
      rintro v3 w9 ⟨rfl, ho9⟩
      rw [decide_eq_true rfl]
      clear hs
      have hs := St.nil w9
      repeat' (first|refine vs (k:=?_)|refine Nx.h ?_|fail)
      exact cutN_normal () (by (repeat (first | exact agree_nil | (apply agree_cons; exact rfl)))) (((hob.trans hoe).trans ho9).trans (hs.only0 rfl))
    · have e2 : setE l x = errT (findT l x.id) := by unfold setE; rw [hr]; rfl
      rw [e2]
      iterate 12 (first|refine vs (k:=?_)|refine ps (k:=?_))
      rw [show (errT (findT l x.id) != errT (findT l x.id)) = false by simp]
      iterate 3 (first|refine vs (k:=?_)|refine ps (k:=?_))
      refine vs (k := ?_)
      refine bs hs (k := ?_); intro b82 w82 hz82 hs
      have hoa := hs.onlyF [] (by simp [q5]) (by simp [D0])
      (with_reducible apply xs_call); exact rfl; exact rfl; exact states_ret tb2 rb2 l [1, 2, 3] _ _ (hC6.only hoa) (by decide) (lit3 (hs.get At.head))
      rintro v w7 ⟨⟨Ga, hGa, hna⟩, ho7⟩
      have hob := hoa.trans ho7
      clear hs
      have hs := St.nil w7
      refine vs (k := ?_)
      refine bs hs (k := ?_); intro b85 w85 hz85 hs
      have hoc := hs.only0 rfl
      (with_reducible apply xs_call); exact rfl; exact rfl; exact states_ret tb rb (setT l x) [1, 2, 3] _ _ ((hT6.only hob).only hoc) (by decide) (lit3 (hs.get At.head))
      rintro v2 w8 ⟨⟨Gb, hGb, hnb⟩, ho8⟩
      have hoe := hoc.trans ho8
      clear hs
      have hs := St.nil w8
      rw [eQ] at hGb
      (with_reducible apply xs_call); exact rfl; exact rfl; exact eqI_ret _ _ (statesT l [1, 2, 3]) (statesT l [1, 2, 3]) hSl _ (hGa.keep hoe (by simp)).lsI hGb.lsI
      rintro v3 w9 ⟨rfl, ho9⟩
      rw [decide_eq_true rfl]
      clear hs
      have hs := St.nil w9
      repeat' (first|refine vs (k:=?_)|refine Nx.h ?_|fail)
      exact cutN_normal () (by (repeat (first | exact agree_nil | (apply agree_cons; exact rfl)))) (((hob.trans hoe).trans ho9).trans (hs.only0 rfl))
  clear hs
  rintro _ env w7 ho7
  have p5 := ho7.block q5 (by simp)
  have hT7 := hT6.only ho7
  have hC7 := hC6.only ho7
  have hoI := hoH.trans ho7
  have hs := (St.nil w7).trackT p5
  repeat' (first|refine vs (k:=?_)|refine qRg ?_|refine Nx.h ?_|refine qCf ?_|fail)
  have hoa := hs.onlyF [] (by simp [p5]) (by simp [D0])
  (with_reducible apply xs_call); exact rfl; exact rfl; exact tasks_ret tb2 rb2 l _ (hC7.only hoa)
  rintro v w8 ⟨⟨G, hG, hGn⟩, ho8⟩
  have hob := hoa.trans ho8
  have p8 := hob.block p5 (by simp)
  have hT8 := hT7.only hob
  have hoJ := hoI.trans hob
  obtain ⟨ad2, cap2, rfl, hD2⟩ := SlV.ls hG (xs := (liveT l).map Tk.cells) rfl (List.length_map _).symm (fun x hx => by obtain ⟨y, _, rfl⟩ := List.mem_map.1 hx; rfl)
  rw [List.length_map] at *
  have hlv : (liveT l).length ≤ 32 := by
    obtain ⟨_, _, _, _, h3, _⟩ := hT
    have k2 : (liveT l).length ≤ l.length := List.length_filter_le (fun x : Tk => decide (x.st ≠ 0)) l
    omega
  clear hs
  have hs := (St.nil w8).trackT p8
  repeat' (first|refine vs (k:=?_)|refine Nx.h ?_|fail)
  refine xc_cutB (fun (_ : Unit) => []) (fun _ w => Only [] w8 w) ?_ ?_
  · refine xc_loopS (fun (i : Nat) => [(5, .pointer (some ⟨b5, 0, none⟩)), (7, .pointer (some ⟨tb, 0, none⟩)), (13, .int .i64 (setE l x)), (91, .slice ad2 (liveT l).length cap2), (92, .int .i64 ((liveT l).length : Nat)), (93, .int .i64 (i : Nat))])
      (fun i w => i ≤ (liveT l).length ∧ Only [] w8 w) (fun i => (liveT l).length - i) 0 (by (repeat (first | exact agree_nil | (apply agree_cons; exact rfl)))) ⟨Nat.zero_le _, hs.onlyF [] (by simp [p8]) (by simp [D0])⟩ fun i env wl ⟨hi, hol⟩ => ?_
    have r5 := hol.block p8 (by simp)
    clear hs
    have hs := (St.nil wl).trackT r5
    repeat' (first|refine vs (k:=?_)|refine qRg ?_|refine Nx.h ?_|(refine xc_if rfl (fun hc=>?_) (fun hc=>?_))|fail)
    · have hlt : i < (liveT l).length := by omega
      obtain ⟨b, off, cs, fz, rfl, _, hb, hcs⟩ := hD2 (fun h => by rw [List.map_eq_nil_iff.1 h] at hlt; cases hlt)
      have hpk := hcs i (Tk.cells (liveT l)[i]) (by rw [List.getElem?_map, List.getElem?_eq_getElem hlt]; rfl)
      have ei := nx64 (m := (liveT l).length) hlt (by omega)
      have hmem : (liveT l)[i] ∈ liveT l := List.getElem_mem hlt
      obtain ⟨t1, t2⟩ := sets_task hI0 x hmem
      obtain ⟨j, f1, f2, f3⟩ := live_find hI0 hmem
      have hid : In64 (liveT l)[i].id := by
        obtain ⟨h1, h2⟩ := findT_lt f1
        obtain ⟨_, _, _, _, h3, _⟩ := hT
        unfold In64; omega
      generalize (liveT l)[i] = q at *
      refine ix (h0 := (by omega)) (h1 := (by omega)) (k := ?_)
      refine lhK (vs := q.cells) (hol.block hb (by simp)) hpk (k := ?_)
      refine al hs (k := ?_); intro b16 w16 hz16 hs
      refine stA hs (k := ?_); intro w17 hs
      have g16 := hs.new (b16, true) (by simp) rfl
      simp only at g16
      repeat' (first|refine vs (k:=?_)|refine qRg ?_|refine Nx.h ?_|fail)
      have hoc := hs.onlyF [] (by simp [r5]) (by simp [D0])
      (with_reducible apply xs_call); exact rfl; exact rfl; exact ttask_ret tb rb (setT l x) q.id _ ((hT8.only hol).only hoc) hid
      rw [t1, t2]
      rintro v w18 ⟨rfl, ho18⟩; replace hs := hs.call0 ho18
      by_cases hA : setE l x = 0
      · rw [hA]
        by_cases hB : q.id = x.id
        · rw [if_pos ⟨rfl, hB⟩]
          iterate 3 refine vs (k := ?_)
          refine al hs (k := ?_); intro b17 w19 hz19 hs
          refine stA hs (k := ?_); intro w20 hs
          refine vs (k := ?_)
          repeat' (first|refine Nx.h ?_|fail)
          refine xc_region ?_ ?_; exact rfl
          iterate 11 (first|refine vs (k:=?_)|refine ps (k:=?_))
          rw [show (q.id == x.id) = true by simpa using hB]
          iterate 5 (first|refine vs (k:=?_)|refine ps (k:=?_))
          rw [eqTk, decide_eq_true rfl]
          iterate 11 (first|refine vs (k:=?_)|refine ps (k:=?_))
          rw [show (q.id != x.id) = false by simpa using hB]
          repeat' (first|refine vs (k:=?_)|refine ps (k:=?_)|refine qRg ?_|refine Nx.h ?_|refine qCf ?_|fail)
          exact loopS_next (i + 1) (by show (liveT l).length - (i + 1) < (liveT l).length - i; omega) (by (repeat (first | exact agree_nil | (apply agree_cons; first | exact rfl | exact congrArg (Value.int .i64) ei)))) ⟨by show i + 1 ≤ _; omega, hol.trans (hs.onlyF [] (by simp [r5]) (by simp [D0]))⟩
        · rw [if_neg (fun h => hB h.2)]
          iterate 3 refine vs (k := ?_)
          refine al hs (k := ?_); intro b17 w19 hz19 hs
          refine stA hs (k := ?_); intro w20 hs
          refine vs (k := ?_)
          repeat' (first|refine Nx.h ?_|fail)
          refine xc_region ?_ ?_; exact rfl
          iterate 11 (first|refine vs (k:=?_)|refine ps (k:=?_))
          rw [show (q.id == x.id) = false by simpa using hB]
          iterate 16 (first|refine vs (k:=?_)|refine ps (k:=?_))
          rw [show (q.id != x.id) = true by simpa using hB]
          iterate 5 (first|refine vs (k:=?_)|refine ps (k:=?_))
          rw [eqTk, decide_eq_true rfl]
          repeat' (first|refine vs (k:=?_)|refine qRg ?_|refine Nx.h ?_|refine qCf ?_|fail)
          exact loopS_next (i + 1) (by show (liveT l).length - (i + 1) < (liveT l).length - i; omega) (by (repeat (first | exact agree_nil | (apply agree_cons; first | exact rfl | exact congrArg (Value.int .i64) ei)))) ⟨by show i + 1 ≤ _; omega, hol.trans (hs.onlyF [] (by simp [r5]) (by simp [D0]))⟩
      · rw [if_neg (fun h => hA h.1)]
        iterate 3 refine vs (k := ?_)
        refine al hs (k := ?_); intro b17 w19 hz19 hs
        refine stA hs (k := ?_); intro w20 hs
        refine vs (k := ?_)
        repeat' (first|refine Nx.h ?_|fail)
        refine xc_region ?_ ?_; exact rfl
        iterate 5 (first|refine vs (k:=?_)|refine ps (k:=?_))
        rw [show (setE l x == 0) = false by simpa using hA]
        iterate 16 (first|refine vs (k:=?_)|refine ps (k:=?_))
        rw [show (setE l x != 0) = true by simpa using hA]
        iterate 11 (first|refine vs (k:=?_)|refine ps (k:=?_))
        rw [eqTk, decide_eq_true rfl]
        repeat' (first|refine vs (k:=?_)|refine qRg ?_|refine Nx.h ?_|refine qCf ?_|fail)
        exact loopS_next (i + 1) (by show (liveT l).length - (i + 1) < (liveT l).length - i; omega) (by (repeat (first | exact agree_nil | (apply agree_cons; first | exact rfl | exact congrArg (Value.int .i64) ei)))) ⟨by show i + 1 ≤ _; omega, hol.trans (hs.onlyF [] (by simp [r5]) (by simp [D0]))⟩
    · exact cutB_exit () (by (repeat (first | exact agree_nil | (apply agree_cons; exact rfl)))) hol
  · rintro _ env w ho9
    clear hs
    have hs := St.nil w
    repeat' (first|refine vs (k:=?_)|refine qRg ?_|refine Nx.h ?_|fail)
    first | refine rt (hq := ?_) | refine rt' (hq := ?_)
    exact ⟨rfl, ho5.trans ((hoJ.trans ho9).trans (hs.only0 rfl))⟩
end Go.Proofs.YtilajmcellffiaaGreatDoorX

namespace Go.Proofs.YtilajmcellffiaaGreatDoorX
open Go Go.RowKit Go.ChangeShapes Go.WideShapes Go.ChangeAt
set_option maxRecDepth 100000 in
theorem tableSets_lifted (os : Os) (started : os.Started) (H : Type) (enc : TypeId × Value → H) :
    ReturnsInHanded {} Tryz.checked os 11 .any (fun w args => (YtilajmcellffiaaGreatDoor.Rows.tableSetsSpec.pre enc Tryz.prog Tryz.f11 [] false w args ∧ laidMetH Tryz.prog [("math/bits.deBruijn32tab", YtilajmcellffiaaGreatDoor.Rows.laid_math_bits_deBruijn32tab), ("math/bits.deBruijn64tab", YtilajmcellffiaaGreatDoor.Rows.laid_math_bits_deBruijn64tab), ("internal/strconv.uint64pow10", YtilajmcellffiaaGreatDoor.Rows.laid_internal_strconv_uint64pow10)] w) ∧ sizedMet enc Tryz.prog Tryz.f11 (OpenSpec.ofChange YtilajmcellffiaaGreatDoor.Rows.tableSetsSpec) false w args) (YtilajmcellffiaaGreatDoor.Rows.tableSetsSpec.post enc Tryz.prog Tryz.f11 false true false false) := by
  refine returnsInHanded_of_change_and (C := Tryz.checked) (X := fun w _ => laidMetH Tryz.prog [("math/bits.deBruijn32tab", YtilajmcellffiaaGreatDoor.Rows.laid_math_bits_deBruijn32tab), ("math/bits.deBruijn64tab", YtilajmcellffiaaGreatDoor.Rows.laid_math_bits_deBruijn64tab), ("internal/strconv.uint64pow10", YtilajmcellffiaaGreatDoor.Rows.laid_internal_strconv_uint64pow10)] w) (fun _ _ _ hh h => h.of_heap hh) own started (by kernel_rfl) Tryz.func11
    (ChangeSpec.witness_shaped (enc := enc) (C := Tryz.checked) (os := os) (X := fun w _ => laidMetH Tryz.prog [("math/bits.deBruijn32tab", YtilajmcellffiaaGreatDoor.Rows.laid_math_bits_deBruijn32tab), ("math/bits.deBruijn64tab", YtilajmcellffiaaGreatDoor.Rows.laid_math_bits_deBruijn64tab), ("internal/strconv.uint64pow10", YtilajmcellffiaaGreatDoor.Rows.laid_internal_strconv_uint64pow10)] w) false (World.doorLaid Tryz.prog 24 os) #[.int .i64 0, .slice none 0 0, .agg #[.int .i64 0, .int .u8 0, .int .i64 0, .int .u32 0, .int .u64 0, .int .i64 0]] 8 rfl (World.shaped_of_RefB (by kernel_rfl) (by kernel_rfl)) (by kernel_rfl) (by kernel_rfl) (by kernel_rfl) (door_met os _)) ?_
  intro W base args ds gs before hval0 hW hcnd hsz0 hL _
  have hP := pows_of hL
  have hval : ∀ (j : Nat) t v, Tryz.f11.params[j]? = some t → args[j]? = some v → Value.okWide Tryz.prog W .any base t v := hval0
  have hW' := hW
  obtain ⟨p, q, hA0, hV, rfl, hfz, hnd⟩ := hW
  have hA : DataW.TrodAll enc Tryz.prog W 0 (fun _ => true) true Tryz.f11.params.toList args.toList ds p := hA0
  rw [Tryz.params11] at hA hval
  obtain ⟨v0, vs0, d0, ds0, p0, q0, hargs, rfl, rfl, h0, r0⟩ := trodAll_cons hA
  obtain ⟨v1, vs1, d1, ds1, p1, q1, rfl, rfl, rfl, h1, r1⟩ := trodAll_cons r0
  obtain ⟨v2, vs2, d2, ds2, p2, q2, rfl, rfl, rfl, h2, r2⟩ := trodAll_cons r1
  obtain ⟨rfl, rfl, rfl⟩ := trodAll_nil r2
  obtain rfl : args = #[v0, v1, v2] := by cases args; simp_all
  obtain ⟨rfl, rfl⟩ := trodVars_none hV
  have lt0 : ∀ x ∈ p0, x.block < W.heap.size := by obtain ⟨m, hm⟩ := h0; exact DataW.trod_lt m _ _ _ hm
  have k0 := h0
  obtain ⟨x0, rfl, _, _, w0⟩ := open_int (t := 3) (k := .i64) (by kernel_rfl) (hval 0 _ v0 rfl rfl) k0
  have b0 : (-9223372036854775808 : Int) ≤ x0 ∧ x0 < 9223372036854775808 := by
    have h := int_of w0
    have e1 : IntKind.i64.min = -9223372036854775808 := rfl
    have e2 : IntKind.i64.max = 9223372036854775807 := rfl
    omega
  have lt1 : ∀ x ∈ p1, x.block < W.heap.size := by obtain ⟨m, hm⟩ := h1; exact DataW.trod_lt m _ _ _ hm
  have k1 := h1
  obtain ⟨x1, hw1, hx1⟩ := open_acts20 (hval 1 _ v1 rfl rfl) k1
  have lt2 : ∀ x ∈ p2, x.block < W.heap.size := by obtain ⟨m, hm⟩ := h2; exact DataW.trod_lt m _ _ _ hm
  have k2 := h2
  obtain ⟨x2, hx2, rfl⟩ := open_task (hval 2 _ v2 rfl rfl) k2
  clear hA0 hval0 hsz0
  refine (ret_calls (by kernel_rfl) (tableSets_ret x0 x1 x2 v1 b0 hx1 hx2 W hw1 hP)).mono fun e W' ⟨v, he, hv, ho⟩ => ?_
  subst he hv
  have bel := ho.below
  exact ⟨_, rfl, _, _, _, [], _, [], hW', trodAll_mk1 (shut_bool (by kernel_rfl) _), (trodAll_cons_mk (Below.trod laidOut (by kernel_rfl) (of_decide_eq_true (by kernel_rfl)) h0 bel lt0) (trodAll_cons_mk (Below.trod laidOut (by kernel_rfl) (of_decide_eq_true (by kernel_rfl)) h1 bel lt1) (trodAll_cons_mk (Below.trod laidOut (by kernel_rfl) (of_decide_eq_true (by kernel_rfl)) h2 bel lt2) trodAll_mk0))), rfl, bel.frame _, fun h => by cases h⟩
end Go.Proofs.YtilajmcellffiaaGreatDoorX
namespace Go.Proofs.YtilajmcellffiaaGreatDoor
open Go Go.RowKit Go.ChangeShapes Go.WideShapes Go.ChangeAt
theorem tableSets_nm : Tryz.prog.funcNamed "turnstone/turnstonelaw20.TableSets" = some 11 := by kernel_rfl
theorem tableSets_ip : (Rows.tableSetsRow.inPlace == Tryz.prog.inPlace 11) = true := by kernel_rfl
theorem tableSets_un : (Rows.tableSetsRow.unfollowed == Tryz.prog.unfollowed 11) = true := by kernel_rfl
theorem tableSets_rc : (Rows.tableSetsRow.recurses == Tryz.prog.recurses 11) = true := by kernel_rfl
theorem tableSets_nd : (Rows.tableSetsRow.named == Tryz.prog.varsNamed 11) = true := by kernel_rfl
theorem tableSets_holds : Rows.TableSetsSaid :=
  OpenClaim.holds_of_wide 11 Tryz.f11 rfl rfl rfl rfl rfl rfl rfl ⟨rfl, rfl, rfl, rfl, rfl⟩ rfl rfl rfl rfl rfl tableSets_nm Tryz.func11
    (by unfold joinedFacts; exact (and_mk (and_mk (and_mk (and_mk (and_mk (and_mk (and_mk (and_mk (and_mk (and_mk (and_mk (and_mk (and_mk (and_mk (and_mk (and_mk (and_mk (and_mk (and_mk (and_mk (and_mk (and_mk (and_mk (and_mk (and_mk (and_mk (and_mk (and_mk (and_mk (and_mk (and_mk (by kernel_rfl) pf_laid) pf_maps) (by kernel_rfl)) (by kernel_rfl)) (by kernel_rfl)) (by kernel_rfl)) (by kernel_rfl)) (by kernel_rfl)) tableSets_ip) tableSets_un) tableSets_rc) tableSets_nd) (by kernel_rfl)) (by kernel_rfl)) (by kernel_rfl)) (by kernel_rfl)) (by kernel_rfl)) (by kernel_rfl)) (by kernel_rfl)) (by kernel_rfl)) (by kernel_rfl)) pf_keys) (by kernel_rfl)) pf_heard) pf_enter) pf_lift) pf_make) (by kernel_rfl)) (by kernel_rfl)) (by kernel_rfl)) (by kernel_rfl)))
    (of_decide_eq_true (by kernel_rfl)) (by unfold Func.isWrapper; first | (rw [if_pos (by decide +kernel)]; kernel_rfl) | (rw [if_neg (by decide +kernel)]; exact ⟨rfl, rfl⟩))
    (fun os started H enc _ => YtilajmcellffiaaGreatDoorX.tableSets_lifted os started H enc)
theorem tableSets_w : Rows.tableSetsRow.wfByText (OpenSpec.ofChange Rows.tableSetsSpec) = true := by kernel_rfl
theorem tableSets_mn : Tryz.prog.mainIs = some (Rows.tableSetsCard.stood.harness.1, Rows.tableSetsCard.stood.harness.2.toList) := by kernel_rfl
theorem tableSets_lk : Rows.tableSetsCard.stood.looks = Tryz.prog.looks [] := by kernel_rfl
theorem tableSets_gs : false = Rows.tableSetsRow.goesBy Tryz.prog := by kernel_rfl
theorem tableSets_card : Rows.TableSetsCardSaid :=
  Claim7.holds_tied_plain_at .later [] [.data, .data, .data] true Rows.tableSetsCard.stood.harness Rows.tableSetsCard.stood.looks
    tableSets_holds (fun _ h => by cases h) tableSets_w (fun _ h => by cases h) tableSets_row_tie rfl ⟨rfl, rfl⟩ tableSets_mn rfl
    (fun f fn hf hfn => by
      obtain rfl : f = 11 := Option.some.inj (tableSets_nm.symm.trans hf) |>.symm
      obtain rfl : fn = Tryz.f11 := (Option.some.inj (Tryz.func11.symm.trans hfn)).symm
      exact ⟨tableSets_lk, fun j t ht => by
        rw [Tryz.params11] at ht
        have hm : t ∈ [3, 85, 89] := by simpa using Array.mem_of_getElem? ht
        have hall : ([3, 85, 89].all fun u => !Tryz.prog.wantsStandIn u) = true := by kernel_rfl
        exact (show Tryz.prog.wantsStandIn t = false by simpa using List.all_eq_true.1 hall t hm)⟩)
    tableSets_gs
end Go.Proofs.YtilajmcellffiaaGreatDoor
