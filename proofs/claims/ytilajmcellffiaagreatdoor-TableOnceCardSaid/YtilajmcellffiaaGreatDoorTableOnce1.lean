/- Proved: law20.TableOnce returns true for every room and every slice of acts, and its arguments read as before; no conditions -/
import Derived.Test.YtilajmcellffiaaGreatDoorB10
import Derived.Deep.SlicePairs
import Derived.Deep.Slices
import Derived.Maps.Range
import Derived.Lib.SlKeysI
import Derived.Test.YtilajmcellffiaaGreatDoorCards
import Derived.SevenTiedAt
set_option linter.unusedVariables false
set_option linter.unusedSimpArgs false
set_option maxRecDepth 100000
namespace Go.Proofs.YtilajmcellffiaaGreatDoorX
open Go Go.RowKit Go.ChangeShapes Go.WideShapes Go.ChangeAt
theorem rng_i64 {x : Int} (h : Lit.wf (.int .i64 x) = true) : In64 x := by
  have h : IntKind.i64.min ≤ x ∧ x ≤ IntKind.i64.max := by simpa [Lit.wf] using h
  have e1 : IntKind.i64.min = -9223372036854775808 := rfl
  have e2 : IntKind.i64.max = 9223372036854775807 := rfl
  unfold In64; omega
theorem rng_u64 {x : Int} (h : Lit.wf (.int .u64 x) = true) : U64 x := by
  have h : IntKind.u64.min ≤ x ∧ x ≤ IntKind.u64.max := by simpa [Lit.wf] using h
  have e1 : IntKind.u64.min = 0 := rfl
  have e2 : IntKind.u64.max = 18446744073709551615 := rfl
  unfold U64; omega
end Go.Proofs.YtilajmcellffiaaGreatDoorX

namespace Go.Proofs.YtilajmcellffiaaGreatDoorX
open Go Go.RowKit Go.ChangeShapes Go.WideShapes Go.ChangeAt
theorem cell_block {w : World} {a : Addr} {v : Value} (h : w.cell? a = some v) : ∃ cs E fz, w.heap[a.block]? = some (.cells cs E fz) ∧ a.spot = none ∧ cs[a.off]? = some v := by
  unfold World.cell? at h
  split at h
  · rename_i cs E fz hb
    split at h
    · cases h
    · rename_i hs
      exact ⟨cs, E, fz, hb, by simpa using hs, h⟩
  · cases h
theorem cell_of_block {w : World} {a : Addr} {v : Value} {cs : Array Value} {E : TypeId} {fz : Nat × Nat} (h : w.cell? a = some v) (hb : w.heap[a.block]? = some (.cells cs E fz)) : cs[a.off]? = some v := by
  obtain ⟨cs', E', fz', h1, _, h2⟩ := cell_block h
  rw [hb] at h1
  cases h1
  exact h2
theorem addr_add (b o k : Nat) : (⟨b, o, none⟩ : Addr).add k = ⟨b, o + k, none⟩ := by
  unfold Addr.add
  split <;> simp_all
end Go.Proofs.YtilajmcellffiaaGreatDoorX

namespace Go.Proofs.YtilajmcellffiaaGreatDoorX
open Go Go.RowKit Go.ChangeShapes Go.WideShapes Go.ChangeAt
theorem rng_u8 {x : Int} (h : Lit.wf (.int .u8 x) = true) : 0 ≤ x ∧ x < 256 := by
  have h : IntKind.u8.min ≤ x ∧ x ≤ IntKind.u8.max := by simpa [Lit.wf] using h
  have e1 : IntKind.u8.min = 0 := rfl
  have e2 : IntKind.u8.max = 255 := rfl
  omega
theorem rng_u32 {x : Int} (h : Lit.wf (.int .u32 x) = true) : 0 ≤ x ∧ x < 4294967296 := by
  have h : IntKind.u32.min ≤ x ∧ x ≤ IntKind.u32.max := by simpa [Lit.wf] using h
  have e1 : IntKind.u32.min = 0 := rfl
  have e2 : IntKind.u32.max = 4294967295 := rfl
  omega
theorem pick_at {cs : List Value} : ∀ {vs : List Value} {off m : Nat}, vs.length = m → (∀ j, j < m → cs[off + j]? = vs[j]?) → Pick cs off m vs
  | [], off, m, hm, h => by subst hm; exact .nil
  | v :: vs, off, m, hm, h => by
    subst hm
    refine .cons (by have := h 0 (by simp); simpa using this) (pick_at rfl fun j hj => ?_)
    have := h (j + 1) (by simp; omega)
    rw [show off + 1 + j = off + (j + 1) by omega]
    simpa using this
set_option maxRecDepth 100000 in
theorem open_rows {H : Type} {enc : TypeId × Value → H} {W : World} {r : Reach} {b0 base : Nat} {spare : Nat → Bool} {held : Bool} {v : Value} {d : DataW H} {p : List MemPlace} {α : Type} [Inhabited α] {t e k : Nat} {cells : α → List Value} {Q : α → Prop}
    (ht : Tryz.prog.underlying t = some (.slice e)) (ce : Tryz.prog.cellsOf e = k) (hk : 0 < k) (hlen : ∀ q, (cells q).length = k)
    (dec : ∀ (fuel : Nat) (cs : List Value) x, DataW.trod enc Tryz.prog W base spare held fuel e cs = some x → ∃ q, cs = cells q ∧ Q q)
    (hv : Value.okWide Tryz.prog W r b0 t v) (h : DataW.Trod enc Tryz.prog W base spare held t v d p) : ∃ xs : List α, LsX W k v (xs.map cells) ∧ ∀ a ∈ xs, Q a := by
  obtain ⟨a0, len, cap, rfl⟩ := okWide_slice ht hv
  obtain ⟨fuel, hf⟩ := h
  rcases Deep.open_slice ht hf with ⟨hc, hx⟩ | ⟨a, len', cap', m, n, D, Pl, hc, hb, hl, hm, hmm, hx, hall⟩
  · obtain ⟨rfl, rfl, rfl⟩ : a0 = none ∧ len = 0 ∧ cap = 0 := by injection hc with h1 h2; injection h1 with h1 h2 h3; exact ⟨h1, h2, h3⟩
    exact ⟨[], ⟨none, 0, rfl, fun h => absurd rfl h⟩, by simp⟩
  · obtain ⟨rfl, rfl, rfl⟩ : a0 = some a ∧ len = len' ∧ cap = cap' := by injection hc with h1 h2; injection h1 with h1 h2 h3; exact ⟨h1, h2, h3⟩
    have hlm : len ≤ m := by rw [hmm]; split <;> omega
    have each : ∀ i, i < len → ∃ q : α, W.cells? base (a.add (i * k)) k = some (cells q) ∧ Q q := fun i hi => by
      obtain ⟨cs', h1, h2⟩ := hall i (by omega)
      obtain ⟨q, rfl, hq⟩ := dec _ _ _ h2
      rw [ce] at h1
      exact ⟨q, h1, hq⟩
    obtain ⟨f, hfq⟩ := Deep.choose_lt each
    refine ⟨(List.range len).map f, ⟨some a, cap, by simp, fun hn => ?_⟩, fun x hx => by obtain ⟨i, hi, rfl⟩ := List.mem_map.1 hx; exact (hfq i (List.mem_range.1 hi)).2⟩
    have h0 : 0 < len := by
      rcases Nat.eq_zero_or_pos len with h0 | h0
      · subst h0; exact absurd rfl hn
      · exact h0
    have hcell : ∀ i, i < len → ∀ j, j < k → W.cell? ((a.add (i * k)).add j) = (cells (f i))[j]? := fun i hi => (World.cells?_some (hfq i hi).1).2.2
    have hc0 := hcell 0 h0 0 hk
    rw [List.getElem?_eq_getElem (by rw [hlen]; exact hk)] at hc0
    obtain ⟨cs, E, fz, hb', hsp, _⟩ := cell_block hc0
    obtain ⟨ab, ao, asp⟩ := a
    have e0 : ((⟨ab, ao, asp⟩ : Addr).add (0 * k)).add 0 = ⟨ab, ao, asp⟩ := by simp [Addr.add]
    rw [e0] at hb' hsp
    obtain rfl : asp = none := hsp
    refine ⟨ab, ao, cs.toList, E, fz, rfl, by simpa using hb', fun i x hx => ?_⟩
    have hi : i < len := by
      rcases Nat.lt_or_ge i len with h1 | h1
      · exact h1
      · rw [List.getElem?_eq_none (by simpa using h1)] at hx; cases hx
    have hx' : cells (f i) = x := by
      rw [List.getElem?_map, List.getElem?_map, List.getElem?_range hi] at hx
      exact Option.some.inj hx
    subst hx'
    refine pick_at (hlen _) fun j hj => ?_
    have g0 := hcell i hi j hj
    rw [addr_add, addr_add] at g0
    have g1 : (cells (f i))[j]? = some ((cells (f i))[j]'(by rw [hlen]; exact hj)) := List.getElem?_eq_getElem _
    rw [g1] at g0
    have := cell_of_block g0 hb'
    rw [g1]
    simpa [Nat.add_assoc] using this
end Go.Proofs.YtilajmcellffiaaGreatDoorX

namespace Go.Proofs.YtilajmcellffiaaGreatDoorX
open Go Go.RowKit
attribute [local irreducible] XS XC XA thenE blockE retE loopE loopS cutB cutN doneE SE
theorem made_rows (zs : List Value) (k : Nat) (hk : zs.length = k) (h0 : 0 < k) : ∀ m : Nat, madeCells zs.toArray (m * k) = ((List.replicate m zs).flatten).toArray := by
  have H : ∀ m : Nat, (List.range (m * k)).map (fun i => zs.toArray[i % zs.toArray.size]!) = (List.replicate m zs).flatten := fun m => by
    induction m with
    | zero => simp
    | succ m ih =>
      rw [Nat.add_mul, Nat.one_mul, List.range_add, List.map_append, ih, List.replicate_succ', List.flatten_append, List.flatten_singleton, List.map_map]
      congr 1
      apply List.ext_getElem
      · simp [hk]
      · intro i h1 h2
        simp only [List.length_map, List.length_range] at h1
        simp only [List.getElem_map, List.getElem_range, Function.comp, List.size_toArray, hk]
        rw [show (m * k + i) % k = i by rw [Nat.mul_comm, Nat.mul_add_mod, Nat.mod_eq_of_lt h1]]
        simp [h2]
  intro m
  apply Array.toList_inj.1
  rw [← H m]
  simp [madeCells]
section
variable {P : Program} {ops : Array Oper} {QE : Exit → Env → World → Prop} {n : Nat} {rest : List Oper} {env : Env} {w wb : World} {D : Ctx} {H : List Ent} {T : Tab}
  {d : Option Nat} {ty : Nat} {pos : String} {aft : Array Edge} {g : Option (Nat × Bool)}
theorem xs_makeR (hT : TabOk P T) {t e size bytes m : Nat} {zs : List Value} {x y : Operand} {kl kc : IntKind} (hw : wantedE ops env g = true) (hsl : look t T.sls = some (e, size, bytes)) (hz : look e T.zs = some zs) (hzl : Nat.beq zs.length size = true) (h0 : Nat.ble 1 size = true)
    (hx : ev env x = .int kl (m : Nat)) (hy : ev env y = .int kc (m : Nat)) (hb : bytes * m ≤ 281474976710656) (hm : m ≤ 9223372036854775807) (hs : St wb D H w)
    (k : ∀ b w', w'.heap.size = w.heap.size + 1 → St wb D ((b, .cells ((List.replicate m zs).flatten).toArray e, true) :: H) w' → XS P ops QE n rest (updO env d (.slice (some ⟨b, 0, none⟩) m m)) w') :
    XS P ops QE n (⟨d, .makeSlice t x y, ty, pos, aft, g⟩ :: rest) env w := by
  obtain ⟨hu, i, hi, hs1, hs2⟩ := sl_parts (hT.sl hsl)
  obtain ⟨i', z, hi', hz', hzc⟩ := z_parts (hT.z hz)
  rw [hi] at hi'; cases hi'
  have hr := run_make (P := P) w t e i z hu hi hz' kl kc (m : Nat) (m : Nat) (by omega) (Int.le_refl _) (by rw [hs2, ← Int.natCast_mul]; omega) (by omega)
  rw [hs1, hzc, Int.toNat_natCast, made_rows zs size (Nat.eq_of_beq_eq_true hzl) (Nat.le_of_ble_eq_true h0)] at hr
  refine XS.value hw (v := .slice (some ⟨w.heap.size, 0, none⟩) m m) (w' := w.alloc (.cells ((List.replicate m zs).flatten).toArray e)) ?_ (k w.heap.size _ (by simp) (hs.alloc _))
  simp [execOp, hx, hy, Sem.run_bind, hr]
end
structure Tk where
  id : Int
  st : Int
  core : Int
  w : Int
  slice : Int
  lag : Int
deriving DecidableEq
abbrev Tk.cells (x : Tk) : List Value := [.int .i64 x.id, .int .u8 x.st, .int .i64 x.core, .int .u32 x.w, .int .u64 x.slice, .int .i64 x.lag]
def tkv (x : Tk) : Value := .agg #[.int .i64 x.id, .int .u8 x.st, .int .i64 x.core, .int .u32 x.w, .int .u64 x.slice, .int .i64 x.lag]
def Tk.zero : Tk := ⟨0, 0, 0, 0, 0, 0⟩
def flatTk (l : List Tk) : List Value := (l.map Tk.cells).flatten
abbrev tabO (rb n cap : Nat) : Obj := .cells #[.slice (some ⟨rb, 0, none⟩) n cap] 160 (0, 0)
abbrev rowsO (l : List Tk) (rest : List Value) : Obj := .cells (flatTk l ++ rest).toArray 89 (0, 0)
def TabAt (w : World) (tb rb : Nat) (l : List Tk) : Prop := ∃ cap rest, w.heap[tb]? = some (tabO rb l.length cap) ∧ w.heap[rb]? = some (rowsO l rest) ∧ l.length ≤ 32 ∧ l.length ≤ cap ∧ rest.length + l.length * 6 = cap * 6
theorem TabAt.keep {w w' : World} {tb rb : Nat} {l : List Tk} {F : List Nat} (h : TabAt w tb rb l) (ho : Only F w w') (h1 : tb ∉ F) (h2 : rb ∉ F) : TabAt w' tb rb l := by
  obtain ⟨cap, rest, a, b, c⟩ := h
  exact ⟨cap, rest, ho.block a h1, ho.block b h2, c⟩
theorem TabAt.only {w w' : World} {tb rb : Nat} {l : List Tk} (h : TabAt w tb rb l) (ho : Only [] w w') : TabAt w' tb rb l := h.keep ho (by simp) (by simp)
theorem pick_app {cs more vs : List Value} {off n : Nat} (h : Pick cs off n vs) : Pick (cs ++ more) off n vs := by
  induction h with
  | nil => exact .nil
  | cons h1 _ ih => exact .cons (by rw [List.getElem?_append_left (by
      rcases Nat.lt_or_ge _ cs.length with h | h
      · exact h
      · rw [List.getElem?_eq_none h] at h1; cases h1)]; exact h1) ih
theorem flatTk_row {l : List Tk} {rest : List Value} {i : Nat} (h : i < l.length) : Pick (flatTk l ++ rest) (i * 6) 6 l[i].cells := by
  refine pick_app (pick_of rfl ?_)
  unfold flatTk
  exact flat_row (fun y hy => by obtain ⟨x, _, rfl⟩ := List.mem_map.1 hy; rfl) (by rw [List.getElem?_map, List.getElem?_eq_getElem h]; rfl)
def sizeT (n : Int) : Nat := (max 0 (min n 32)).toNat
theorem tnew_ret (n : Int) (w0 : World) : Ret Tryz.prog 44 #[.int .i64 n] w0 fun v w' => (∃ tb rb, v = .pointer (some ⟨tb, 0, none⟩) ∧ TabAt w' tb rb (List.replicate (sizeT n) .zero) ∧ w0.heap.size ≤ tb ∧ w0.heap.size ≤ rb ∧ tb ≠ rb) ∧ Only [] w0 w' := by
  have hs := St.nil w0
  refine ret_of_xc Tryz.func44 (by kernel_rfl) rfl Tryz.ntmps44 rfl rfl rfl ?_
  repeat' (first|refine vs (k:=?_)|refine qRg ?_|refine Nx.h ?_|fail)
  have hle : sizeT n ≤ 32 := by unfold sizeT; omega
  rw [show (if (if (32 : Int) < n then 32 else n) > 0 then (if (32 : Int) < n then 32 else n) else 0) = ((sizeT n : Nat) : Int) by unfold sizeT; split <;> split <;> omega]
  generalize sizeT n = m at *
  refine xs_makeR tabOk (m := m) rfl rfl rfl rfl rfl rfl rfl (by omega) (by omega) hs (k := ?_)
  intro rb w1 hz1 hs
  have g1 := hs.new _ List.mem_cons_self rfl
  simp only at g1
  refine vs (k := ?_)
  refine bx hs (k := ?_); intro tb w2 hz2 hs
  have g2 := hs.new _ List.mem_cons_self rfl
  simp only at g2
  have hnd := hs.nd
  simp only [List.map_cons, List.nodup_cons, List.mem_cons, List.map_nil, List.not_mem_nil, or_false] at hnd
  repeat' (first|refine vs (k:=?_)|refine Nx.h ?_|fail)
  first | refine rt (hq := ?_) | refine rt' (hq := ?_)
  refine ⟨⟨tb, rb, rfl, ⟨m, [], ?_, ?_, by rw [List.length_replicate]; exact hle, by rw [List.length_replicate]; exact ⟨Nat.le_refl _, by simp⟩⟩, g2, g1, hnd.1⟩, hs.only0 rfl⟩
  · rw [List.length_replicate]; exact hs.get At.head
  · have := hs.get (At.tail At.head)
    rw [this]
    unfold rowsO flatTk
    rw [List.map_replicate, List.append_nil]; rfl
theorem tright_ret (x : Tk) (w0 : World) : Ret Tryz.prog 91 #[tkv x] w0 fun v w' => v = .bool (decide (1 ≤ x.st) && decide (x.st ≤ 3)) ∧ Only [] w0 w' := by
  have hs := St.nil w0
  refine ret_of_xc Tryz.func91 (by kernel_rfl) rfl Tryz.ntmps91 rfl rfl rfl ?_
  repeat' (first|refine vs (k:=?_)|refine ps (k:=?_)|(refine bx hs (k:=?_);intro b w hz hs)|refine qRg ?_|refine Nx.h ?_|((with_reducible apply xs_guard);exact rfl;exact rfl;intro c hc;(fail_if_success have:true=c:=hc);(fail_if_success have:false=c:=hc);cases c)|fail)
  all_goals (first | refine rt (hq := ?_) | refine rt' (hq := ?_))
  all_goals refine ⟨?_, hs.only0 rfl⟩
  all_goals clear hs
  · have h1 : decide (1 ≤ x.st) = false := hc
    rw [h1]; rfl
  · have h1 : decide (1 ≤ x.st) = true := hc
    rw [h1]; rfl
end Go.Proofs.YtilajmcellffiaaGreatDoorX

namespace Go.Proofs.YtilajmcellffiaaGreatDoorX
open Go Go.RowKit
attribute [local irreducible] XS XC XA thenE blockE retE loopE loopS cutB cutN doneE SE
def findT (l : List Tk) (id : Int) : Option Nat := if 1 ≤ id ∧ id ≤ l.length ∧ (l.getD (id - 1).toNat .zero).st ≠ 0 then some (id - 1).toNat else none
theorem findT_lt {l : List Tk} {id : Int} {i : Nat} (h : findT l id = some i) : i < l.length ∧ id = (i : Int) + 1 := by
  unfold findT at h
  split at h
  · cases h; omega
  · cases h
def posT (o : Option Nat) : Int := match o with | some i => (i : Int) | none => 0
def errT (o : Option Nat) : Int := match o with | some _ => 0 | none => 4
set_option maxHeartbeats 4000000 in
theorem tfind_ret (tb rb : Nat) (l : List Tk) (id : Int) (w0 : World) (h : TabAt w0 tb rb l) (hid : In64 id) : Ret Tryz.prog 90 #[.pointer (some ⟨tb, 0, none⟩), .int .i64 id] w0 fun v w' => v = .tuple #[.int .i64 (posT (findT l id)), .int .i64 (errT (findT l id))] ∧ Only [] w0 w' := by
  obtain ⟨cap, rest, h1, h2, h3, h4⟩ := h
  have hs := ((St.nil w0).trackT h1).trackT h2
  refine ret_of_xc Tryz.func90 (by kernel_rfl) rfl Tryz.ntmps90 rfl rfl rfl ?_
  repeat' (first|refine Nx.h ?_|fail)
  refine xc_region ?_ ?_; exact rfl
  refine vs (k := ?_)
  refine vs (k := ?_)
  repeat' (first|refine Nx.h ?_|fail)
  refine xc_region ?_ ?_; exact rfl
  refine vs (k := ?_)
  refine vs (k := ?_)
  refine vs (k := ?_)
  repeat' (first|refine Nx.h ?_|refine qCf ?_|fail)
  refine xc_region ?_ ?_; exact rfl
  refine vs (k := ?_)
  refine vs (k := ?_)
  by_cases c1 : id < 1
  · have e : findT l id = none := if_neg (by omega)
    rw [decide_eq_true c1, e]
    repeat' (first|refine vs (k:=?_)|refine ps (k:=?_)|refine qRg ?_|refine Nx.h ?_|refine qCt ?_|fail)
    first | refine rt (hq := ?_) | refine rt' (hq := ?_)
    exact ⟨rfl, hs.onlyF [] (by simp [h1, h2]) (by simp [D0])⟩
  rw [decide_eq_false c1]
  iterate 8 refine vs (k := ?_)
  by_cases c2 : id > (l.length : Nat)
  · have e : findT l id = none := if_neg (by omega)
    rw [decide_eq_true c2, e]
    repeat' (first|refine vs (k:=?_)|refine ps (k:=?_)|refine qRg ?_|refine Nx.h ?_|refine qCt ?_|fail)
    first | refine rt (hq := ?_) | refine rt' (hq := ?_)
    exact ⟨rfl, hs.onlyF [] (by simp [h1, h2]) (by simp [D0])⟩
  rw [decide_eq_false c2]
  obtain ⟨i, rfl⟩ : ∃ i : Nat, id = (i : Int) + 1 := ⟨(id - 1).toNat, by omega⟩
  have hi : i < l.length := by omega
  have ew : IntKind.i64.wrap ((i : Int) + 1 - 1) = (i : Int) := by rw [wrap_i64]; omega
  have ei : ((i : Int) + 1 - 1).toNat = i := by omega
  have hpk := flatTk_row (rest := rest) hi
  have eF : findT l ((i : Int) + 1) = if l[i].st ≠ 0 then some i else none := by
    unfold findT
    rw [ei, List.getD_eq_getElem?_getD, List.getElem?_eq_getElem hi]
    by_cases hq : l[i].st = 0
    · rw [if_neg (by simp [hq]), if_neg (by simp [hq])]
    · rw [if_pos ⟨by omega, by omega, by simpa using hq⟩, if_pos hq]
  generalize l[i] = q at *
  iterate 8 refine vs (k := ?_)
  rw [ew]
  refine ix (h0 := (by omega)) (h1 := (by omega)) (k := ?_)
  refine vs (k := ?_)
  refine lh (v := .int .u8 q.st) (hs.get At.head) ?_ (k := ?_)
  · cases hpk with | cons a t => cases t with | cons a2 _ => simpa using a2
  refine vs (k := ?_)
  by_cases hq : q.st = 0
  · rw [if_neg (by simp [hq])] at eF
    rw [eF, hq]
    repeat' (first|refine vs (k:=?_)|refine qRg ?_|refine Nx.h ?_|refine qCt ?_|fail)
    first | refine rt (hq := ?_) | refine rt' (hq := ?_)
    exact ⟨rfl, hs.onlyF [] (by simp [h1, h2]) (by simp [D0])⟩
  · rw [if_pos hq] at eF
    rw [eF, show (q.st == 0) = false by simpa using hq]
    repeat' (first|refine vs (k:=?_)|refine qRg ?_|refine Nx.h ?_|refine qCf ?_|fail)
    first | refine rt (hq := ?_) | refine rt' (hq := ?_)
    refine ⟨?_, hs.onlyF [] (by simp [h1, h2]) (by simp [D0])⟩
    show Value.tuple _ = Value.tuple _
    rw [ew]; rfl
def taskT (l : List Tk) (id : Int) : Tk := match findT l id with | some i => l.getD i .zero | none => .zero
set_option maxHeartbeats 4000000 in
theorem ttask_ret (tb rb : Nat) (l : List Tk) (id : Int) (w0 : World) (h : TabAt w0 tb rb l) (hid : In64 id) : Ret Tryz.prog 46 #[.pointer (some ⟨tb, 0, none⟩), .int .i64 id] w0 fun v w' => v = .tuple #[tkv (taskT l id), .int .i64 (errT (findT l id))] ∧ Only [] w0 w' := by
  have hT := h
  obtain ⟨cap, rest, h1, h2, h3, h4⟩ := h
  have hs := ((St.nil w0).trackT h1).trackT h2
  refine ret_of_xc Tryz.func46 (by kernel_rfl) rfl Tryz.ntmps46 rfl rfl rfl ?_
  refine xc_seq ?_
  refine xc_region ?_ ?_; exact rfl
  refine al hs (k := ?_); intro b4 w hz hs
  repeat' (first|refine vs (k:=?_)|refine qRg ?_|refine Nx.h ?_|fail)
  (with_reducible apply xs_call); exact rfl; exact rfl; exact tfind_ret tb rb l id _ (hT.only (hs.onlyF [] (by simp [h1, h2]) (by simp [D0]))) hid
  unfold taskT
  cases e : findT l id with
  | none =>
    rintro v w' ⟨rfl, ho⟩; replace hs := hs.call0 ho; repeat' (first|refine vs (k:=?_)|(refine stA hs (k:=?_);intro w hs)|refine qRg ?_|refine Nx.h ?_|refine qCt ?_|fail)
    first | refine rt (hq := ?_) | refine rt' (hq := ?_)
    exact ⟨rfl, hs.onlyF [] (by simp [h1, h2]) (by simp [D0])⟩
  | some i =>
    obtain ⟨hi, _⟩ := findT_lt e
    have hpk := flatTk_row (rest := rest) hi
    have eG : l.getD i .zero = l[i] := by rw [List.getD_eq_getElem?_getD, List.getElem?_eq_getElem hi]; rfl
    simp only
    rw [eG]
    generalize l[i] = q at *
    rintro v w' ⟨rfl, ho⟩; replace hs := hs.call0 ho; repeat' (first|refine vs (k:=?_)|refine qRg ?_|refine Nx.h ?_|refine qCf ?_|fail)
    refine ix (h0 := (by show (0 : Int) ≤ (i : Int); omega)) (h1 := (by show (i : Int) < _; omega)) (k := ?_)
    refine lhK (vs := q.cells) (hs.get (b := rb) (o := rowsO l rest) (by repeat (first | exact At.head | (with_reducible apply At.tail)))) ?_ (k := ?_)
    · simpa [posT] using hpk
    repeat' (first|refine vs (k:=?_)|(refine stA hs (k:=?_);intro w hs)|refine Nx.h ?_|fail)
    first | refine rt (hq := ?_) | refine rt' (hq := ?_)
    exact ⟨rfl, hs.onlyF [] (by simp [h1, h2]) (by simp [D0])⟩
end Go.Proofs.YtilajmcellffiaaGreatDoorX

namespace Go.Proofs.YtilajmcellffiaaGreatDoorX
open Go Go.RowKit
attribute [local irreducible] XS XC XA thenE blockE retE loopE loopS cutB cutN doneE SE
theorem flatTk_cons (x : Tk) (l : List Tk) : flatTk (x :: l) = x.cells ++ flatTk l := by simp [flatTk]
theorem put_row (y : Tk) {rest : List Value} : ∀ {l : List Tk} {i : Nat}, i < l.length → PutL (flatTk l ++ rest) (i * 6) y.cells (flatTk (l.set i y) ++ rest)
  | [], i, h => absurd h (Nat.not_lt_zero _)
  | x :: l, 0, _ => by
    rw [flatTk_cons, List.set_cons_zero, flatTk_cons, List.append_assoc, List.append_assoc]
    exact .cons (.cons (.cons (.cons (.cons (.cons .nil)))))
  | x :: l, i + 1, h => by
    have ih := put_row y (rest := rest) (l := l) (i := i) (Nat.lt_of_succ_lt_succ h)
    rw [flatTk_cons, List.set_cons_succ, flatTk_cons, List.append_assoc, List.append_assoc, show (i + 1) * 6 = i * 6 + 1 + 1 + 1 + 1 + 1 + 1 by omega]
    exact .skip (.skip (.skip (.skip (.skip (.skip ih)))))
def dropT (l : List Tk) (id : Int) : List Tk := match findT l id with | some i => l.set i .zero | none => l
set_option maxHeartbeats 4000000 in
theorem tdrop_ret (tb rb : Nat) (l : List Tk) (id : Int) (w0 : World) (h : TabAt w0 tb rb l) (hid : In64 id) : Ret Tryz.prog 45 #[.pointer (some ⟨tb, 0, none⟩), .int .i64 id] w0 fun v w' => v = .int .i64 (errT (findT l id)) ∧ TabAt w' tb rb (dropT l id) ∧ Only [rb] w0 w' := by
  have hT := h
  obtain ⟨cap, rest, h1, h2, h3, h4⟩ := h
  have hs := ((St.nil w0).trackT h1).trackT h2
  refine ret_of_xc Tryz.func45 (by kernel_rfl) rfl Tryz.ntmps45 rfl rfl rfl ?_
  repeat' (first|refine vs (k:=?_)|refine qRg ?_|refine Nx.h ?_|fail)
  (with_reducible apply xs_call); exact rfl; exact rfl; exact tfind_ret tb rb l id _ (hT.only (hs.onlyF [] (by simp [h1, h2]) (by simp [D0]))) hid
  unfold dropT
  cases e : findT l id with
  | none =>
    rintro v w' ⟨rfl, ho⟩; replace hs := hs.call0 ho; repeat' (first|refine vs (k:=?_)|refine qRg ?_|refine Nx.h ?_|refine qCf ?_|fail)
    first | refine rt (hq := ?_) | refine rt' (hq := ?_)
    have ho := hs.onlyF [] (by simp [h1, h2]) (by simp [D0])
    exact ⟨rfl, hT.only ho, ho.weaken (by simp)⟩
  | some i =>
    obtain ⟨hi, _⟩ := findT_lt e
    have hpt := put_row .zero (rest := rest) hi
    rintro v w' ⟨rfl, ho⟩; replace hs := hs.call0 ho; repeat' (first|refine vs (k:=?_)|refine qRg ?_|refine Nx.h ?_|refine qCt ?_|fail)
    refine ix (h0 := (by show (0 : Int) ≤ (i : Int); omega)) (h1 := (by show (i : Int) < _; omega)) (k := ?_)
    refine stA hs (cs := flatTk l ++ rest) (vs := Tk.zero.cells) (cs' := flatTk (l.set i .zero) ++ rest) (hc := ?_) (k := ?_)
    · simpa [posT] using hpt
    intro w hs
    repeat' (first|refine vs (k:=?_)|refine qRg ?_|refine Nx.h ?_|fail)
    first | refine rt (hq := ?_) | refine rt' (hq := ?_)
    have ho := hs.onlyF [rb] (by simp [h1]) (by simp [D0])
    refine ⟨rfl, ⟨cap, rest, ?_, hs.get At.head, by rw [List.length_set]; exact h3, by rw [List.length_set]; exact h4⟩, ho⟩
    rw [List.length_set]; exact hs.get (At.tail At.head)
def rightT (x : Tk) : Bool := decide (1 ≤ x.st) && decide (x.st ≤ 3)
end Go.Proofs.YtilajmcellffiaaGreatDoorX

namespace Go.Proofs.YtilajmcellffiaaGreatDoorX
open Go Go.RowKit
attribute [local irreducible] XS XC XA thenE blockE retE loopE loopS cutB cutN doneE SE
def freeT : List Tk → Option Nat
  | [] => none
  | x :: l => if x.st = 0 then some 0 else (freeT l).map (· + 1)
theorem freeT_drop {l : List Tk} {i : Nat} (h : i < l.length) : freeT (l.drop i) = if l[i].st = 0 then some 0 else (freeT (l.drop (i + 1))).map (· + 1) := by rw [List.drop_eq_getElem_cons h]; rfl
theorem freeT_lt : ∀ {l : List Tk} {i : Nat}, freeT l = some i → i < l.length
  | [], i, h => by cases h
  | x :: l, i, h => by
    unfold freeT at h
    split at h
    · cases h; simp
    · cases e : freeT l with
      | none => rw [e] at h; cases h
      | some j => rw [e] at h; cases h; have := freeT_lt e; simp; omega
theorem add1_ret (x : Tk) (w0 : World) : Ret Tryz.prog 93 #[tkv x] w0 fun v w' => v = .bool (x.st == 0) ∧ Only [] w0 w' := by
  have hs := St.nil w0
  refine ret_of_xc Tryz.func93 (by kernel_rfl) rfl Tryz.ntmps93 rfl rfl rfl ?_
  repeat' (first|refine vs (k:=?_)|(refine bx hs (k:=?_);intro b w hz hs)|refine qRg ?_|refine Nx.h ?_|fail)
  first | refine rt (hq := ?_) | refine rt' (hq := ?_)
  exact ⟨rfl, hs.only0 rfl⟩
def idxT (o : Option Nat) : Int := match o with | some i => (i : Int) | none => -1
set_option maxHeartbeats 4000000 in
theorem indexF_ret (rb cap : Nat) (l : List Tk) (rest : List Value) (w0 : World) (hm : l.length ≤ 32) (h : w0.heap[rb]? = some (rowsO l rest)) : Ret Tryz.prog 92 #[.slice (some ⟨rb, 0, none⟩) l.length cap, .func (.func 93) #[] #[]] w0 fun v w' => v = .int .i64 (idxT (freeT l)) ∧ Only [] w0 w' := by
  have hs := St.nil w0
  refine ret_of_xc Tryz.func92 (by kernel_rfl) rfl Tryz.ntmps92 rfl rfl rfl ?_
  repeat' (first|refine vs (k:=?_)|refine qRg ?_|refine Nx.h ?_|fail)
  refine xc_cutB (fun (_ : Unit) => []) (fun _ w => freeT l = none ∧ Only [] w0 w) ?_ ?_
  · refine xc_loopS (fun (i : Nat) => [(0, .slice (some ⟨rb, 0, none⟩) l.length cap), (1, .func (.func 93) #[] #[]), (7, .int .i64 (l.length : Nat)), (8, .int .i64 (i : Nat))]) (fun i w => i ≤ l.length ∧ (freeT (l.drop i)).map (· + i) = freeT l ∧ Only [] w0 w) (fun i => l.length - i) 0 (by (repeat (first | exact agree_nil | (apply agree_cons; exact rfl)))) ⟨Nat.zero_le _, by rw [List.drop_zero]; cases freeT l <;> rfl, hs.only0 rfl⟩ fun i env wl ⟨hi, he, ho0⟩ => ?_
    clear hs
    have hs := St.nil wl
    repeat' (first|refine vs (k:=?_)|refine qRg ?_|refine Nx.h ?_|(refine xc_if rfl (fun hc=>?_) (fun hc=>?_))|fail)
    · have hlt : i < l.length := by omega
      have hpk := flatTk_row (rest := rest) hlt
      have ei := nx64 (m := l.length) hlt (by omega)
      rw [freeT_drop hlt] at he
      generalize l[i] = q at *
      refine ix (h0 := (by omega)) (h1 := (by omega)) (k := ?_)
      refine lhK (vs := q.cells) (ho0.block h (by simp)) ?_ (k := ?_)
      · simpa using hpk
      (with_reducible apply xs_call); exact rfl; exact rfl; exact add1_ret q _
      by_cases hq : q.st = 0
      · rw [if_pos hq] at he
        rw [hq]
        rintro v w' ⟨rfl, ho⟩; replace hs := hs.call0 ho; repeat' (first|refine vs (k:=?_)|refine qRg ?_|refine Nx.h ?_|refine qCt ?_|fail)
        first | refine rt (hq := ?_) | refine rt' (hq := ?_)
        exact ⟨by rw [← he]; simp [idxT, packed], ho0.trans (hs.only0 rfl)⟩
      · rw [if_neg hq] at he
        rw [show (q.st == 0) = false by simpa using hq]
        rintro v w' ⟨rfl, ho⟩; replace hs := hs.call0 ho; repeat' (first|refine vs (k:=?_)|refine qRg ?_|refine Nx.h ?_|refine qCf ?_|fail)
        refine loopS_next (i + 1) (by show l.length - (i + 1) < l.length - i; omega) (by (repeat (first | exact agree_nil | (apply agree_cons; first | exact rfl | exact congrArg (Value.int .i64) ei)))) ⟨by show i + 1 ≤ _; omega, ?_, ho0.trans (hs.only0 rfl)⟩
        rw [← he]
        cases freeT (l.drop (i + 1)) with
        | none => rfl
        | some j => simp; omega
    · have e : i = l.length := by omega
      subst e
      rw [List.drop_length] at he
      exact cutB_exit () (by (repeat (first | exact agree_nil | (apply agree_cons; exact rfl)))) ⟨he.symm, ho0⟩
  · rintro _ env w ⟨he, ho0⟩
    clear hs
    have hs := St.nil w
    repeat' (first|refine vs (k:=?_)|refine qRg ?_|refine Nx.h ?_|fail)
    first | refine rt (hq := ?_) | refine rt' (hq := ?_)
    exact ⟨by rw [he]; rfl, ho0.trans (hs.only0 rfl)⟩
end Go.Proofs.YtilajmcellffiaaGreatDoorX

namespace Go.Proofs.YtilajmcellffiaaGreatDoorX
open Go Go.RowKit
attribute [local irreducible] XS XC XA thenE blockE retE loopE loopS cutB cutN doneE SE
def addI (l : List Tk) (x : Tk) : Int := bif rightT x then (match freeT l with | some i => (i : Int) + 1 | none => 0) else 0
def addE (l : List Tk) (x : Tk) : Int := bif rightT x then (match freeT l with | some _ => 0 | none => 7) else 2
def addT (l : List Tk) (x : Tk) : List Tk := bif rightT x then (match freeT l with | some i => l.set i { x with id := (i : Int) + 1 } | none => l) else l
set_option maxHeartbeats 4000000 in
theorem tadd_ret (tb rb : Nat) (l : List Tk) (x : Tk) (w0 : World) (h : TabAt w0 tb rb l) : Ret Tryz.prog 47 #[.pointer (some ⟨tb, 0, none⟩), tkv x] w0 fun v w' => v = .tuple #[.int .i64 (addI l x), .int .i64 (addE l x)] ∧ TabAt w' tb rb (addT l x) ∧ Only [rb] w0 w' := by
  have hT := h
  obtain ⟨cap, rest, h1, h2, h3, h4⟩ := h
  have hs := ((St.nil w0).trackT h1).trackT h2
  have lb1 := lt_of_block h1
  have lb2 := lt_of_block h2
  refine ret_of_xc Tryz.func47 (by kernel_rfl) rfl Tryz.ntmps47 rfl rfl rfl ?_
  repeat' (first|refine vs (k:=?_)|(refine bx hs (k:=?_);intro b w hz hs)|refine qRg ?_|refine Nx.h ?_|refine qCf ?_|fail)
  (with_reducible apply xs_call); exact rfl; exact rfl; exact tright_ret x _
  rw [show (decide (1 ≤ x.st) && decide (x.st ≤ 3)) = rightT x from rfl]
  unfold addI addE addT
  cases hr : rightT x with
  | false =>
    rintro v w' ⟨rfl, ho⟩; replace hs := hs.call0 ho; repeat' (first|refine vs (k:=?_)|refine qRg ?_|refine Nx.h ?_|refine qCt ?_|fail)
    first | refine rt (hq := ?_) | refine rt' (hq := ?_)
    have ho := hs.onlyF [] (by simp [h1, h2]) (by simp [D0])
    exact ⟨rfl, hT.only ho, ho.weaken (by simp)⟩
  | true =>
    rintro v w' ⟨rfl, ho⟩; replace hs := hs.call0 ho; repeat' (first|refine vs (k:=?_)|refine qRg ?_|refine Nx.h ?_|refine qCf ?_|fail)
    (with_reducible apply xs_call); exact rfl; exact rfl; exact indexF_ret rb cap l rest _ h3 (hs.get (b := rb) (o := rowsO l rest) (by repeat (first | exact At.head | (with_reducible apply At.tail))))
    simp only [cond_true]
    cases e : freeT l with
    | none =>
      rintro v w' ⟨rfl, ho⟩; replace hs := hs.call0 ho; repeat' (first|refine vs (k:=?_)|refine qRg ?_|refine Nx.h ?_|refine qCt ?_|fail)
      first | refine rt (hq := ?_) | refine rt' (hq := ?_)
      have ho := hs.onlyF [] (by simp [h1, h2]) (by simp [D0])
      exact ⟨rfl, hT.only ho, ho.weaken (by simp)⟩
    | some i =>
      have hi := freeT_lt e
      have hpt := put_row { x with id := (i : Int) + 1 } (rest := rest) hi
      have ew : IntKind.i64.wrap ((i : Int) + 1) = (i : Int) + 1 := by rw [wrap_i64]; omega
      rw [show idxT (some i) = (i : Int) from rfl]
      rintro v w' ⟨rfl, ho⟩; replace hs := hs.call0 ho
      refine vs (k := ?_)
      repeat' (first|refine Nx.h ?_|fail)
      refine xc_region ?_ ?_; exact rfl
      refine vs (k := ?_)
      refine vs (k := ?_)
      rw [decide_eq_false (show ¬ ((i : Int) < 0) by omega)]
      repeat' (first|refine Nx.h ?_|refine qCf ?_|fail)
      refine xc_region ?_ ?_; exact rfl
      refine vs (k := ?_)
      refine vs (k := ?_)
      rw [ew]
      repeat' (first|refine vs (k:=?_)|(refine st hs (k:=?_);intro w hs)|refine Nx.h ?_|fail)
      refine dr [7] hs (k := ?_); intro hX w hs
      refine tk 0 hX (k := ?_)
      refine tk 1 hX (k := ?_)
      refine tk 2 hX (k := ?_)
      refine tk 3 hX (k := ?_)
      refine tk 4 hX (k := ?_)
      refine tk 5 hX (k := ?_)
      refine tk 6 hX (hr := fun w' hH => r_indexAddr tabOk rfl rfl rfl (by show (0 : Int) ≤ (i : Int); omega) (by show (i : Int) < _; omega)) (k := ?_)
      refine dt 7 hX (k := ?_)
      refine stA hs (cs := flatTk l ++ rest) (vs := Tk.cells { x with id := (i : Int) + 1 }) (cs' := flatTk (l.set i { x with id := (i : Int) + 1 }) ++ rest) (hc := ?_) (k := ?_)
      · simpa using hpt
      intro w hs
      refine XS.nil ?_
      refine dn (k := ?_)
      refine en (k := ?_)
      repeat' (first|refine vs (k:=?_)|refine qRg ?_|refine Nx.h ?_|fail)
      first | refine rt (hq := ?_) | refine rt' (hq := ?_)
      have ho := hs.onlyF [rb] (by simp [h1]) (by simp [D0])
      refine ⟨rfl, ⟨cap, rest, ?_, hs.get (b := rb) (by repeat (first | exact At.head | (with_reducible apply At.tail))), by rw [List.length_set]; exact h3, by rw [List.length_set]; exact h4⟩, ho⟩
      rw [List.length_set]; exact hs.get (b := tb) (by repeat (first | exact At.head | (with_reducible apply At.tail)))
end Go.Proofs.YtilajmcellffiaaGreatDoorX

namespace Go.Proofs.YtilajmcellffiaaGreatDoorX
open Go Go.RowKit
attribute [local irreducible] XS XC XA thenE blockE retE loopE loopS cutB cutN doneE SE
def liveT (l : List Tk) : List Tk := l.filter fun x => decide (x.st ≠ 0)
theorem liveT_snoc (l : List Tk) (x : Tk) : liveT (l ++ [x]) = if x.st = 0 then liveT l else liveT l ++ [x] := by
  unfold liveT
  rw [List.filter_append]
  by_cases h : x.st = 0
  · rw [if_pos h]; simp [h]
  · rw [if_neg h]; simp [h]
theorem flatTk_app (a b : List Tk) : flatTk (a ++ b) = flatTk a ++ flatTk b := by simp [flatTk]
set_option maxHeartbeats 4000000 in
theorem tasks_ret (tb rb : Nat) (l : List Tk) (w0 : World) (h : TabAt w0 tb rb l) : Ret Tryz.prog 49 #[.pointer (some ⟨tb, 0, none⟩)] w0 fun v w' => (∃ G, SlV w' 89 6 v (liveT l).length (flatTk (liveT l)) G ∧ ∀ k ∈ G, w0.heap.size ≤ k) ∧ Only [] w0 w' := by
  obtain ⟨cap, rest, h1, h2, h3, h4⟩ := h
  have hs := (St.nil w0).trackT h1
  refine ret_of_xc Tryz.func49 (by kernel_rfl) rfl Tryz.ntmps49 rfl rfl rfl ?_
  repeat' (first|refine vs (k:=?_)|refine qRg ?_|refine Nx.h ?_|refine qCf ?_|fail)
  have hoA := hs.onlyF [] (by simp [h1]) (by simp [D0])
  refine xc_cutB (fun (v3 : Value) => [(3, v3)]) (fun v3 w => Only [] w0 w ∧ ∃ G, SlV w 89 6 v3 (liveT l).length (flatTk (liveT l)) G ∧ ∀ k ∈ G, w0.heap.size ≤ k) ?_ ?_
  · refine xc_loopS (fun (x : Nat × Value) => [(3, x.2), (11, .slice (some ⟨rb, 0, none⟩) l.length cap), (12, .int .i64 (l.length : Nat)), (13, .int .i64 (x.1 : Nat))])
      (fun x w => x.1 ≤ l.length ∧ Only [] w0 w ∧ ∃ G, SlV w 89 6 x.2 (liveT (l.take x.1)).length (flatTk (liveT (l.take x.1))) G ∧ ∀ k ∈ G, w0.heap.size ≤ k) (fun x => l.length - x.1) (0, .slice none 0 0) (by (repeat (first | exact agree_nil | (apply agree_cons; exact rfl)))) ⟨Nat.zero_le _, hoA, [], .inl ⟨rfl, rfl, rfl, rfl⟩, by simp⟩ fun x env wl ⟨hi, ho0, hT⟩ => ?_
    obtain ⟨i, v5⟩ := x
    simp only at hi hT
    obtain ⟨G, hG, hGn⟩ := hT
    clear hs
    have hs := St.nil wl
    repeat' (first|refine vs (k:=?_)|refine qRg ?_|refine Nx.h ?_|(refine xc_if rfl (fun hc=>?_) (fun hc=>?_))|fail)
    · have hlt : i < l.length := by omega
      have hpk := flatTk_row (rest := rest) hlt
      have ei := nx64 (m := l.length) hlt (by omega)
      have et : liveT (l.take (i + 1)) = if l[i].st = 0 then liveT (l.take i) else liveT (l.take i) ++ [l[i]] := by rw [take_next hlt, liveT_snoc]
      have hlG := hG.lt
      have hle : (liveT (l.take i)).length ≤ 32 := by have := List.length_filter_le (fun x : Tk => decide (x.st ≠ 0)) (l.take i); rw [List.length_take] at this; unfold liveT; omega
      generalize l[i] = q at *
      generalize liveT (l.take i) = A at *
      refine ix (h0 := (by omega)) (h1 := (by omega)) (k := ?_)
      refine lhK (vs := q.cells) (ho0.block h2 (by simp)) ?_ (k := ?_)
      · simpa using hpk
      by_cases hq : q.st = 0
      · rw [if_pos hq] at et
        repeat' (first|refine vs (k:=?_)|(refine stA hs (k:=?_);intro w hs)|(refine al hs (k:=?_);intro b w hz hs)|(refine bs hs (k:=?_);intro b w hz hs)|refine qRg ?_|refine Nx.h ?_|(refine xc_cond rfl (fun hc=>?_) (fun hc=>?_))|fail)
        · exact absurd hq (by simpa using hc)
        · refine loopS_next (i + 1, v5) (by show l.length - (i + 1) < l.length - i; omega) (by (repeat (first | exact agree_nil | (apply agree_cons; first | exact rfl | exact congrArg (Value.int .i64) ei)))) ⟨by show i + 1 ≤ _; omega, ho0.trans (hs.only0 rfl), G, ?_, hGn⟩
          simp only [et]
          exact hG.keep (hs.only0 rfl) (by simp)
      · rw [if_neg hq] at et
        repeat' (first|refine vs (k:=?_)|(refine stA hs (k:=?_);intro w hs)|(refine al hs (k:=?_);intro b w hz hs)|(refine bs hs (k:=?_);intro b w hz hs)|refine qRg ?_|refine Nx.h ?_|(refine xc_cond rfl (fun hc=>?_) (fun hc=>?_))|fail)
        · have hb2 := hs.get At.head
          have ho2 := hs.only0 rfl
          refine xs_appendW tabOk rfl rfl rfl rfl rfl rfl rfl (by decide) (lit_cells (news := q.cells) hb2) (by simp [Value.oneCell']) (hG.keep ho2 (by simp)) (by omega) (by omega) ?_
          intro v5' w4 ⟨G', hG', hGn'⟩ ho4
          have hz4 := ho2.size
          have hz0 := ho0.size
          clear hs
          have hs := St.nil w4
          repeat' (first|refine vs (k:=?_)|refine qRg ?_|refine Nx.h ?_|fail)
          refine loopS_next (i + 1, v5') (by show l.length - (i + 1) < l.length - i; omega) (by (repeat (first | exact agree_nil | (apply agree_cons; first | exact rfl | exact congrArg (Value.int .i64) ei)))) ⟨by show i + 1 ≤ _; omega, ((ho0.trans ho2).news hGn ho4).trans (hs.only0 rfl), G', ?_, ?_⟩
          · simp only [et]
            rw [List.length_append, flatTk_app, show flatTk [q] = q.cells by simp [flatTk]]
            exact hG'.keep (hs.only0 rfl) (by simp)
          · intro k hk
            rcases hGn' k hk with h | h
            · exact hGn k h
            · omega
        · exact absurd (by simpa using hc) hq
    · have e : i = l.length := by omega
      subst e
      rw [List.take_length] at hG
      exact cutB_exit v5 (by (repeat (first | exact agree_nil | (apply agree_cons; exact rfl)))) ⟨ho0, G, hG, hGn⟩
  · rintro v5 env w ⟨ho0, G, hG, hGn⟩
    clear hs
    have hs := St.nil w
    repeat' (first|refine vs (k:=?_)|refine qRg ?_|refine Nx.h ?_|fail)
    first | refine rt (hq := ?_) | refine rt' (hq := ?_)
    have ho3 := hs.only0 rfl
    exact ⟨⟨G, hG.keep ho3 (by simp), hGn⟩, ho0.trans ho3⟩
end Go.Proofs.YtilajmcellffiaaGreatDoorX

namespace Go.Proofs.YtilajmcellffiaaGreatDoorX
open Go Go.RowKit
def IdsOk : Nat → List Tk → Prop
  | _, [] => True
  | k, x :: l => (x.st ≠ 0 → x.id = (k : Int) + 1 ∧ rightT x = true) ∧ IdsOk (k + 1) l
theorem IdsOk.rep : ∀ (m k : Nat), IdsOk k (List.replicate m .zero)
  | 0, _ => trivial
  | m + 1, k => ⟨fun h => absurd rfl h, IdsOk.rep m (k + 1)⟩
theorem IdsOk.set {y : Tk} : ∀ {l : List Tk} {k i : Nat}, IdsOk k l → (y.st ≠ 0 → y.id = (k : Int) + i + 1 ∧ rightT y = true) → IdsOk k (l.set i y)
  | [], k, i, _, _ => by rw [List.set_nil]; trivial
  | x :: l, k, 0, h, hy => ⟨fun hn => by obtain ⟨a, b⟩ := hy hn; exact ⟨by omega, b⟩, h.2⟩
  | x :: l, k, i + 1, h, hy => ⟨h.1, IdsOk.set h.2 (fun hn => by obtain ⟨a, b⟩ := hy hn; exact ⟨by omega, b⟩)⟩
theorem IdsOk.get : ∀ {l : List Tk} {k i : Nat} {x : Tk}, IdsOk k l → l[i]? = some x → x.st ≠ 0 → x.id = (k : Int) + i + 1 ∧ rightT x = true
  | [], _, _, _, _, h, _ => by simp at h
  | y :: l, k, 0, x, hI, h, hn => by
    rw [List.getElem?_cons_zero] at h
    cases h
    obtain ⟨a, b⟩ := hI.1 hn
    exact ⟨by omega, b⟩
  | y :: l, k, i + 1, x, hI, h, hn => by
    rw [List.getElem?_cons_succ] at h
    obtain ⟨a, b⟩ := IdsOk.get hI.2 h hn
    exact ⟨by omega, b⟩
theorem mem_live {l : List Tk} {x : Tk} (h : x ∈ liveT l) : x.st ≠ 0 ∧ ∃ i : Nat, l[i]? = some x := by
  unfold liveT at h
  obtain ⟨a, b⟩ := List.mem_filter.1 h
  exact ⟨by simpa using b, List.mem_iff_getElem?.1 a⟩
theorem findT_row {l : List Tk} {i : Nat} {x : Tk} (h : l[i]? = some x) : findT l ((i : Int) + 1) = if x.st ≠ 0 then some i else none := by
  have hi : i < l.length := by
    rcases Nat.lt_or_ge i l.length with h1 | h1
    · exact h1
    · rw [List.getElem?_eq_none h1] at h; cases h
  unfold findT
  rw [show ((i : Int) + 1 - 1).toNat = i by omega, List.getD_eq_getElem?_getD, h]
  by_cases hq : x.st = 0
  · rw [if_neg (by simp [hq]), if_neg (by simp [hq])]
  · rw [if_pos ⟨by omega, by omega, by simpa using hq⟩, if_pos hq]
def statesT (l : List Tk) (ss : List Int) : List Int := ((liveT l).filter fun x => ss.contains x.st).map Tk.id
theorem IdsOk.add {l : List Tk} (h : IdsOk 0 l) (x : Tk) : IdsOk 0 (addT l x) := by
  unfold addT
  cases hr : rightT x with
  | false => exact h
  | true => cases e : freeT l with
    | none => exact h
    | some i => exact h.set fun _ => ⟨by show (i : Int) + 1 = _; omega, hr⟩
theorem IdsOk.drop {l : List Tk} (h : IdsOk 0 l) (id : Int) : IdsOk 0 (dropT l id) := by
  unfold dropT
  cases findT l id with
  | none => exact h
  | some i => exact h.set fun hn => absurd rfl hn
theorem right_st {x : Tk} (h : rightT x = true) : x.st ≠ 0 := fun e => by unfold rightT at h; rw [e] at h; exact absurd h (by decide)
end Go.Proofs.YtilajmcellffiaaGreatDoorX

namespace Go.Proofs.YtilajmcellffiaaGreatDoorX
open Go Go.RowKit
def Tk.In (x : Tk) : Prop := In64 x.id ∧ (0 ≤ x.st ∧ x.st < 256) ∧ In64 x.core ∧ (0 ≤ x.w ∧ x.w < 4294967296) ∧ U64 x.slice ∧ In64 x.lag
structure Ac where
  d : Int
  x : Tk
abbrev Ac.cells (a : Ac) : List Value := .int .u8 a.d :: a.x.cells
def Ac.In (a : Ac) : Prop := (0 ≤ a.d ∧ a.d < 256) ∧ a.x.In
instance : Inhabited Ac := ⟨⟨0, .zero⟩⟩
end Go.Proofs.YtilajmcellffiaaGreatDoorX

namespace Go.Proofs.YtilajmcellffiaaGreatDoorX
open Go Go.RowKit Go.ChangeShapes Go.WideShapes Go.ChangeAt
def tkFs : Array Field := #[{ name := "ID", type := 3, offset := 0, embedded := false, tag := "", pkgPath := "", byteOffset := 0 }, { name := "State", type := 5, offset := 1, embedded := false, tag := "", pkgPath := "", byteOffset := 8 }, { name := "Core", type := 3, offset := 2, embedded := false, tag := "", pkgPath := "", byteOffset := 16 }, { name := "W", type := 25, offset := 3, embedded := false, tag := "", pkgPath := "", byteOffset := 24 }, { name := "Slice", type := 22, offset := 4, embedded := false, tag := "", pkgPath := "", byteOffset := 32 }, { name := "Lag", type := 2, offset := 5, embedded := false, tag := "", pkgPath := "", byteOffset := 40 }]
def acFs : Array Field := #[{ name := "Do", type := 5, offset := 0, embedded := false, tag := "", pkgPath := "", byteOffset := 0 }, { name := "X", type := 89, offset := 1, embedded := false, tag := "", pkgPath := "", byteOffset := 8 }]
theorem shape_tk : Tryz.prog.underlying 89 = some (.struct tkFs) := by kernel_rfl
theorem shape_ac : Tryz.prog.underlying 91 = some (.struct acFs) := by kernel_rfl
theorem cellsTk : Tryz.prog.cellsOf 89 = 6 := by kernel_rfl
theorem cellsAc : Tryz.prog.cellsOf 91 = 7 := by kernel_rfl
set_option maxRecDepth 100000 in
theorem dec_tk {H : Type} {enc : TypeId × Value → H} {W : World} {base : Nat} {spare : Nat → Bool} {held : Bool} (fuel : Nat) (cs : List Value) (x) (h : DataW.trod enc Tryz.prog W base spare held fuel 89 cs = some x) : ∃ q : Tk, cs = q.cells ∧ q.In := by
  obtain ⟨xs, n, _, _, hl, hlen, hq⟩ := DataW.trod_struct shape_tk h
  rw [cellsTk] at hl
  match cs, hl with
  | [v0, v1, v2, v3, v4, v5], _ =>
    match xs, hlen with
    | [y0, y1, y2, y3, y4, y5], _ =>
      have c0 : Tryz.prog.cellsOf 3 = 1 := by kernel_rfl
      have c1 : Tryz.prog.cellsOf 5 = 1 := by kernel_rfl
      have c3 : Tryz.prog.cellsOf 25 = 1 := by kernel_rfl
      have c4 : Tryz.prog.cellsOf 22 = 1 := by kernel_rfl
      have c5 : Tryz.prog.cellsOf 2 = 1 := by kernel_rfl
      have h0 := hq 0 _ rfl
      have h1 := hq 1 _ rfl
      have h2 := hq 2 _ rfl
      have h3 := hq 3 _ rfl
      have h4 := hq 4 _ rfl
      have h5 := hq 5 _ rfl
      obtain ⟨a0, e0, _, w0⟩ := DataW.trod_int (t := 3) (k := .i64) (by kernel_rfl) h0
      obtain ⟨a1, e1, _, w1⟩ := DataW.trod_int (t := 5) (k := .u8) (by kernel_rfl) h1
      obtain ⟨a2, e2, _, w2⟩ := DataW.trod_int (t := 3) (k := .i64) (by kernel_rfl) h2
      obtain ⟨a3, e3, _, w3⟩ := DataW.trod_int (t := 25) (k := .u32) (by kernel_rfl) h3
      obtain ⟨a4, e4, _, w4⟩ := DataW.trod_int (t := 22) (k := .u64) (by kernel_rfl) h4
      obtain ⟨a5, e5, _, w5⟩ := DataW.trod_int (t := 2) (k := .i64) (by kernel_rfl) h5
      have q0 : v0 = .int .i64 a0 := by
        have e : List.take (Tryz.prog.cellsOf 3) (List.drop 0 [v0, v1, v2, v3, v4, v5]) = [.int .i64 a0] := e0
        rw [c0] at e; simpa using e
      have q1 : v1 = .int .u8 a1 := by
        have e : List.take (Tryz.prog.cellsOf 5) (List.drop 1 [v0, v1, v2, v3, v4, v5]) = [.int .u8 a1] := e1
        rw [c1] at e; simpa using e
      have q2 : v2 = .int .i64 a2 := by
        have e : List.take (Tryz.prog.cellsOf 3) (List.drop 2 [v0, v1, v2, v3, v4, v5]) = [.int .i64 a2] := e2
        rw [c0] at e; simpa using e
      have q3 : v3 = .int .u32 a3 := by
        have e : List.take (Tryz.prog.cellsOf 25) (List.drop 3 [v0, v1, v2, v3, v4, v5]) = [.int .u32 a3] := e3
        rw [c3] at e; simpa using e
      have q4 : v4 = .int .u64 a4 := by
        have e : List.take (Tryz.prog.cellsOf 22) (List.drop 4 [v0, v1, v2, v3, v4, v5]) = [.int .u64 a4] := e4
        rw [c4] at e; simpa using e
      have q5 : v5 = .int .i64 a5 := by
        have e : List.take (Tryz.prog.cellsOf 2) (List.drop 5 [v0, v1, v2, v3, v4, v5]) = [.int .i64 a5] := e5
        rw [c5] at e; simpa using e
      exact ⟨⟨a0, a1, a2, a3, a4, a5⟩, by rw [q0, q1, q2, q3, q4, q5], rng_i64 w0, rng_u8 w1, rng_i64 w2, rng_u32 w3, rng_u64 w4, rng_i64 w5⟩
set_option maxRecDepth 100000 in
theorem dec_ac {H : Type} {enc : TypeId × Value → H} {W : World} {base : Nat} {spare : Nat → Bool} {held : Bool} (fuel : Nat) (cs : List Value) (x) (h : DataW.trod enc Tryz.prog W base spare held fuel 91 cs = some x) : ∃ q : Ac, cs = q.cells ∧ q.In := by
  obtain ⟨xs, n, _, _, hl, hlen, hq⟩ := DataW.trod_struct shape_ac h
  rw [cellsAc] at hl
  match cs, hl with
  | [v0, v1, v2, v3, v4, v5, v6], _ =>
    match xs, hlen with
    | [y0, y1], _ =>
      have c1 : Tryz.prog.cellsOf 5 = 1 := by kernel_rfl
      have h0 := hq 0 _ rfl
      have h1 := hq 1 _ rfl
      obtain ⟨a0, e0, _, w0⟩ := DataW.trod_int (t := 5) (k := .u8) (by kernel_rfl) h0
      obtain ⟨q, e1, hq1⟩ := dec_tk n _ _ h1
      have q0 : v0 = .int .u8 a0 := by
        have e : List.take (Tryz.prog.cellsOf 5) (List.drop 0 [v0, v1, v2, v3, v4, v5, v6]) = [.int .u8 a0] := e0
        rw [c1] at e; simpa using e
      have q1 : [v1, v2, v3, v4, v5, v6] = q.cells := by
        have e : List.take (Tryz.prog.cellsOf 89) (List.drop 1 [v0, v1, v2, v3, v4, v5, v6]) = q.cells := e1
        rw [cellsTk] at e; simpa using e
      exact ⟨⟨a0, q⟩, by rw [q0, q1], rng_u8 w0, hq1⟩
set_option maxRecDepth 100000 in
theorem open_acts20 {H : Type} {enc : TypeId × Value → H} {W : World} {r : Reach} {b0 base : Nat} {spare : Nat → Bool} {held : Bool} {v : Value} {d : DataW H} {p : List MemPlace} (hv : Value.okWide Tryz.prog W r b0 85 v)
    (h : DataW.Trod enc Tryz.prog W base spare held 85 v d p) : ∃ xs : List Ac, LsX W 7 v (xs.map Ac.cells) ∧ ∀ a ∈ xs, a.In :=
  open_rows (by kernel_rfl) cellsAc (by decide) (fun _ => rfl) dec_ac hv h
end Go.Proofs.YtilajmcellffiaaGreatDoorX

namespace Go.Proofs.YtilajmcellffiaaGreatDoorX
open Go Go.RowKit
attribute [local irreducible] XS XC XA thenE blockE retE loopE loopS cutB cutN doneE SE
def x20 : Tk := ⟨0, 1, 0, 0, 0, 0⟩
def l20 (n : Nat) : List Tk := match n with
  | 0 => List.replicate (sizeT 3) .zero
  | 1 => addT (List.replicate (sizeT 3) .zero) x20
  | 2 => addT (addT (List.replicate (sizeT 3) .zero) x20) x20
  | 3 => addT (addT (addT (List.replicate (sizeT 3) .zero) x20) x20) x20
  | _ => dropT (addT (addT (addT (List.replicate (sizeT 3) .zero) x20) x20) x20) 2
theorem a20 : addI (l20 0) x20 = 1 ∧ addE (l20 0) x20 = 0 ∧ addI (l20 1) x20 = 2 ∧ addE (l20 1) x20 = 0 ∧ addI (l20 2) x20 = 3 ∧ addE (l20 2) x20 = 0 ∧ errT (findT (l20 3) 2) = 0 ∧ addI (l20 4) x20 = 2 ∧ addE (l20 4) x20 = 0 := by decide
set_option maxHeartbeats 8000000 in
theorem awake20_ret (w0 : World) (ht : Pows w0) : Ret Tryz.prog 43 #[] w0 fun v w' => v = .bool true ∧ Only [] w0 w' := by
  have hs := St.nil w0
  obtain ⟨e1, e2, e3, e4, e5, e6, e7, e8, e9⟩ := a20
  refine ret_of_xc Tryz.func43 (by kernel_rfl) rfl Tryz.ntmps43 rfl rfl rfl ?_
  repeat' (first|refine vs (k:=?_)|refine qRg ?_|refine Nx.h ?_|fail)
  (with_reducible apply xs_call); exact rfl; exact rfl; exact tnew_ret 3 _
  rintro v w1 ⟨⟨tb, rb, rfl, hT, g1, g2, hne⟩, ho1⟩
  have hoA := (hs.only0 rfl).trans ho1
  have hzA := (hs.only0 rfl).size
  have lr : rb < w1.heap.size := by obtain ⟨_, _, _, h, _⟩ := hT; exact lt_of_block h
  clear hs
  have hs := St.nil w1
  repeat' (first|refine vs (k:=?_)|(refine stA hs (k:=?_);intro w hs)|(refine al hs (k:=?_);intro b w hz hs)|refine qRg ?_|refine Nx.h ?_|fail)
  have gb := hs.new _ List.mem_cons_self rfl
  simp only at gb
  have hnb : b ∉ [rb] := by simp; omega
  have ho0a := hs.onlyF [] (by simp) (by simp [D0])
  (with_reducible apply xs_call); exact rfl; exact rfl; exact tadd_ret tb rb (l20 0) x20 _ (hT.only ho0a)
  rw [e1, e2]
  rintro v w2 ⟨rfl, hT1, ho0b⟩
  have hb0 := ho0b.block (hs.get (b := b) (by repeat (first | exact At.head | (with_reducible apply At.tail)))) hnb
  have hoX0 := (hoA.trans ho0a).step ho0b (fun k hk => .inr (by obtain rfl := List.mem_singleton.1 hk; exact g2))
  clear hs
  have hs := (St.nil w2).trackT hb0
  repeat' (first|refine vs (k:=?_)|refine qRg ?_|refine Nx.h ?_|fail)
  have ho1a := hs.onlyF [] (by simp [hb0]) (by simp [D0])
  (with_reducible apply xs_call); exact rfl; exact rfl; exact tadd_ret tb rb (l20 1) x20 _ (hT1.only ho1a)
  rw [e3, e4]
  rintro v w3 ⟨rfl, hT2, ho1b⟩
  have hb1 := ho1b.block (hs.get (b := b) (by repeat (first | exact At.head | (with_reducible apply At.tail)))) hnb
  have hoX1 := (hoX0.trans ho1a).step ho1b (fun k hk => .inr (by obtain rfl := List.mem_singleton.1 hk; exact g2))
  clear hs
  have hs := (St.nil w3).trackT hb1
  repeat' (first|refine vs (k:=?_)|refine qRg ?_|refine Nx.h ?_|fail)
  have ho2a := hs.onlyF [] (by simp [hb1]) (by simp [D0])
  (with_reducible apply xs_call); exact rfl; exact rfl; exact tadd_ret tb rb (l20 2) x20 _ (hT2.only ho2a)
  rw [e5, e6]
  rintro v w4 ⟨rfl, hT3, ho2b⟩
  have hb2 := ho2b.block (hs.get (b := b) (by repeat (first | exact At.head | (with_reducible apply At.tail)))) hnb
  have hoX2 := (hoX1.trans ho2a).step ho2b (fun k hk => .inr (by obtain rfl := List.mem_singleton.1 hk; exact g2))
  clear hs
  have hs := (St.nil w4).trackT hb2
  repeat' (first|refine vs (k:=?_)|refine qRg ?_|refine Nx.h ?_|fail)
  have ho3a := hs.onlyF [] (by simp [hb2]) (by simp [D0])
  (with_reducible apply xs_call); exact rfl; exact rfl; exact tdrop_ret tb rb (l20 3) 2 _ (hT3.only ho3a) (by decide)
  rw [e7]
  rintro v w5 ⟨rfl, hT4, ho3b⟩
  have hb3 := ho3b.block (hs.get (b := b) (by repeat (first | exact At.head | (with_reducible apply At.tail)))) hnb
  have hoX3 := (hoX2.trans ho3a).step ho3b (fun k hk => .inr (by obtain rfl := List.mem_singleton.1 hk; exact g2))
  clear hs
  have hs := (St.nil w5).trackT hb3
  repeat' (first|refine vs (k:=?_)|refine qRg ?_|refine Nx.h ?_|fail)
  have ho4a := hs.onlyF [] (by simp [hb3]) (by simp [D0])
  (with_reducible apply xs_call); exact rfl; exact rfl; exact tadd_ret tb rb (l20 4) x20 _ (hT4.only ho4a)
  rw [e8, e9]
  rintro v w6 ⟨rfl, hT5, ho4b⟩
  have hb4 := ho4b.block (hs.get (b := b) (by repeat (first | exact At.head | (with_reducible apply At.tail)))) hnb
  have hoX4 := (hoX3.trans ho4a).step ho4b (fun k hk => .inr (by obtain rfl := List.mem_singleton.1 hk; exact g2))
  clear hs
  have hs := (St.nil w6).trackT hb4
  repeat' (first|refine vs (k:=?_)|refine qRg ?_|refine Nx.h ?_|fail)
  have hoL := hs.onlyF [] (by simp [hb4]) (by simp [D0])
  (with_reducible apply xs_call); exact rfl; exact rfl; exact Awake19_ret _ (tab_only ht (hoX4.trans hoL))
  rintro v w' ⟨rfl, ho⟩; replace hs := hs.call0 ho; repeat' (first|refine vs (k:=?_)|refine Nx.h ?_|fail)
  first | refine rt (hq := ?_) | refine rt' (hq := ?_)
  exact ⟨rfl, hoX4.trans (hs.onlyF [] (by simp [hb4]) (by simp [D0]))⟩
end Go.Proofs.YtilajmcellffiaaGreatDoorX

namespace Go.Proofs.YtilajmcellffiaaGreatDoorX
open Go Go.RowKit
attribute [local irreducible] XS XC XA thenE blockE retE loopE loopS cutB cutN doneE SE
end Go.Proofs.YtilajmcellffiaaGreatDoorX

namespace Go.Proofs.YtilajmcellffiaaGreatDoorX
open Go Go.RowKit
attribute [local irreducible] XS XC XA thenE blockE retE loopE loopS cutB cutN doneE SE
def uR (x : Int) : List Value := [.int .u8 x]
theorem has_drop {l : List Int} {x : Int} {i : Nat} (h : i < l.length) : (l.drop i).contains x = (decide (l[i] = x) || (l.drop (i + 1)).contains x) := by
  rw [List.drop_eq_getElem_cons h, List.contains_cons]
  congr 1
  by_cases e : l[i] = x
  · rw [e]; simp
  · rw [decide_eq_false e]; simpa using fun k : x = l[i] => e k.symm
set_option maxHeartbeats 4000000 in
theorem index8_ret (l : List Int) (sl : Value) (x : Int) (hm : l.length ≤ 9223372036854775807) (w0 : World) (hL : LsX w0 1 sl (l.map uR)) : Ret Tryz.prog 127 #[sl, .int .u8 x] w0 fun v w' => (∃ i : Int, v = .int .i64 i ∧ (0 ≤ i ↔ l.contains x = true)) ∧ Only [] w0 w' := by
  obtain ⟨ad, cap, rfl, hD⟩ := hL
  rw [List.length_map] at *
  have hs := St.nil w0
  refine ret_of_xc Tryz.func127 (by kernel_rfl) rfl Tryz.ntmps127 rfl rfl rfl ?_
  repeat' (first|refine vs (k:=?_)|refine qRg ?_|refine Nx.h ?_|fail)
  refine xc_cutB (fun (_ : Unit) => []) (fun _ w => l.contains x = false ∧ Only [] w0 w) ?_ ?_
  · refine xc_loopS (fun (i : Nat) => [(0, .slice ad l.length cap), (1, .int .u8 x), (7, .int .i64 (l.length : Nat)), (8, .int .i64 (i : Nat))]) (fun i w => i ≤ l.length ∧ (l.drop i).contains x = l.contains x ∧ Only [] w0 w) (fun i => l.length - i) 0 (by (repeat (first | exact agree_nil | (apply agree_cons; exact rfl)))) ⟨Nat.zero_le _, by rw [List.drop_zero], hs.only0 rfl⟩ fun i env wl ⟨hi, he, ho0⟩ => ?_
    clear hs
    have hs := St.nil wl
    repeat' (first|refine vs (k:=?_)|refine qRg ?_|refine Nx.h ?_|(refine xc_if rfl (fun hc=>?_) (fun hc=>?_))|fail)
    · have hlt : i < l.length := by omega
      obtain ⟨b, off, cs, E, fz, rfl, hb, hcs⟩ := hD (fun h => by have := congrArg List.length h; rw [List.length_map, List.length_nil] at this; omega)
      have hpk := hcs i (uR l[i]) (by rw [List.getElem?_map, List.getElem?_eq_getElem hlt]; rfl)
      have ei := nx64 (m := l.length) hlt hm
      rw [has_drop hlt] at he
      generalize l[i] = q at *
      refine ix (h0 := (by omega)) (h1 := (by omega)) (k := ?_)
      refine lh (ho0.block hb (by simp)) (by cases hpk; assumption) (k := ?_)
      repeat' (first|refine vs (k:=?_)|refine qRg ?_|refine Nx.h ?_|(refine xc_if rfl (fun hc=>?_) (fun hc=>?_))|fail)
      · have hq : q = x := by have : x = q := by simpa using hc
                              exact this.symm
        rw [decide_eq_true hq, Bool.true_or] at he
        first | refine rt (hq := ?_) | refine rt' (hq := ?_)
        exact ⟨⟨_, rfl, by rw [← he]; exact ⟨fun _ => rfl, fun _ => Int.natCast_nonneg _⟩⟩, ho0.trans (hs.only0 rfl)⟩
      · have hq : ¬ q = x := fun e => by subst e; simp at hc
        rw [decide_eq_false hq, Bool.false_or] at he
        exact loopS_next (i + 1) (by show l.length - (i + 1) < l.length - i; omega) (by (repeat (first | exact agree_nil | (apply agree_cons; first | exact rfl | exact congrArg (Value.int .i64) ei)))) ⟨by show i + 1 ≤ _; omega, he, ho0.trans (hs.only0 rfl)⟩
    · have e : i = l.length := by omega
      subst e
      rw [List.drop_length] at he
      exact cutB_exit () (by (repeat (first | exact agree_nil | (apply agree_cons; exact rfl)))) ⟨he.symm, ho0⟩
  · rintro _ env w ⟨he, ho0⟩
    clear hs
    have hs := St.nil w
    repeat' (first|refine vs (k:=?_)|refine qRg ?_|refine Nx.h ?_|fail)
    first | refine rt (hq := ?_) | refine rt' (hq := ?_)
    exact ⟨⟨_, rfl, by rw [he]; simp⟩, ho0.trans (hs.only0 rfl)⟩
theorem contains8_ret (l : List Int) (sl : Value) (x : Int) (hm : l.length ≤ 9223372036854775807) (w0 : World) (hL : LsX w0 1 sl (l.map uR)) : Ret Tryz.prog 94 #[sl, .int .u8 x] w0 fun v w' => v = .bool (l.contains x) ∧ Only [] w0 w' := by
  have hs := St.nil w0
  refine ret_of_xc Tryz.func94 (by kernel_rfl) rfl Tryz.ntmps94 rfl rfl rfl ?_
  repeat' (first|refine vs (k:=?_)|refine qRg ?_|refine Nx.h ?_|fail)
  (with_reducible apply xs_call); exact rfl; exact rfl; exact index8_ret l sl x hm _ (hL.only (hs.only0 rfl))
  rintro v w' ⟨⟨i, rfl, hi⟩, ho⟩; replace hs := hs.call0 ho
  repeat' (first|refine vs (k:=?_)|refine Nx.h ?_|fail)
  first | refine rt (hq := ?_) | refine rt' (hq := ?_)
  refine ⟨congrArg Value.bool ?_, hs.only0 rfl⟩
  cases h : l.contains x with
  | true => exact decide_eq_true (hi.2 h)
  | false => exact decide_eq_false (fun k => by have := hi.1 k; rw [h] at this; cases this)
theorem statesT_snoc (A : List Tk) (q : Tk) (ss : List Int) : ((A ++ [q]).filter fun x => ss.contains x.st).map Tk.id = if ss.contains q.st = true then ((A.filter fun x => ss.contains x.st).map Tk.id) ++ [q.id] else (A.filter fun x => ss.contains x.st).map Tk.id := by
  rw [List.filter_append, List.filter_cons, List.filter_nil]
  by_cases h : ss.contains q.st = true
  · rw [if_pos h, if_pos h, List.map_append]; rfl
  · rw [if_neg h, if_neg h, List.append_nil]
set_option maxHeartbeats 8000000 in
theorem states_ret (tb rb : Nat) (l : List Tk) (ss : List Int) (sl : Value) (w0 : World) (h : TabAt w0 tb rb l) (hm : ss.length ≤ 9223372036854775807) (hL : LsX w0 1 sl (ss.map uR)) : Ret Tryz.prog 48 #[.pointer (some ⟨tb, 0, none⟩), sl] w0 fun v w' => (∃ G, SlV w' 3 1 v (statesT l ss).length (ints (statesT l ss)) G ∧ ∀ k ∈ G, w0.heap.size ≤ k) ∧ Only [] w0 w' := by
  have hs := St.nil w0
  have hle : (liveT l).length ≤ 32 := by
    obtain ⟨_, _, _, _, h3, _⟩ := h
    have := List.length_filter_le (fun x : Tk => decide (x.st ≠ 0)) l; unfold liveT; omega
  refine ret_of_xc Tryz.func48 (by kernel_rfl) rfl Tryz.ntmps48 rfl rfl rfl ?_
  repeat' (first|refine vs (k:=?_)|refine qRg ?_|refine Nx.h ?_|fail)
  (with_reducible apply xs_call); exact rfl; exact rfl; exact tasks_ret tb rb l _ (h.only (hs.only0 rfl))
  rintro v1 w1 ⟨⟨G1, hG1, hGn1⟩, ho1⟩
  have hoA := (hs.only0 rfl).trans ho1
  obtain ⟨ad, cap, rfl, hD⟩ := SlV.ls hG1 (xs := (liveT l).map Tk.cells) rfl (List.length_map _).symm (fun x hx => by obtain ⟨y, _, rfl⟩ := List.mem_map.1 hx; rfl)
  rw [List.length_map] at *
  unfold statesT
  generalize liveT l = L at *
  clear hs
  have hs := St.nil w1
  repeat' (first|refine vs (k:=?_)|refine Nx.h ?_|fail)
  refine xc_cutB (fun (v3 : Value) => [(5, v3)]) (fun v3 w => Only [] w0 w ∧ ∃ G, SlV w 3 1 v3 ((L.filter fun x => ss.contains x.st).map Tk.id).length (ints ((L.filter fun x => ss.contains x.st).map Tk.id)) G ∧ ∀ k ∈ G, w0.heap.size ≤ k) ?_ ?_
  · refine xc_loopS (fun (x : Nat × Value) => [(1, sl), (5, x.2), (9, .slice ad L.length cap), (10, .int .i64 (L.length : Nat)), (11, .int .i64 (x.1 : Nat))])
      (fun x w => x.1 ≤ L.length ∧ Only [] w0 w ∧ Only [] w1 w ∧ ∃ G, SlV w 3 1 x.2 (((L.take x.1).filter fun x => ss.contains x.st).map Tk.id).length (ints (((L.take x.1).filter fun x => ss.contains x.st).map Tk.id)) G ∧ ∀ k ∈ G, w1.heap.size ≤ k) (fun x => L.length - x.1) (0, .slice none 0 0) (by (repeat (first | exact agree_nil | (apply agree_cons; exact rfl)))) ⟨Nat.zero_le _, hoA.trans (hs.only0 rfl), hs.only0 rfl, [], .inl ⟨rfl, rfl, rfl, rfl⟩, by simp⟩ fun x env wl ⟨hi, ho0, ho10, hT⟩ => ?_
    obtain ⟨i, v5⟩ := x
    simp only at hi hT
    obtain ⟨G, hG, hGn⟩ := hT
    clear hs
    have hs := St.nil wl
    repeat' (first|refine vs (k:=?_)|refine qRg ?_|refine Nx.h ?_|(refine xc_if rfl (fun hc=>?_) (fun hc=>?_))|fail)
    · have hlt : i < L.length := by omega
      obtain ⟨b, off, cs, fz, rfl, _, hb, hcs⟩ := hD (fun h => by rw [List.map_eq_nil_iff.1 h] at hlt; cases hlt)
      have hpk := hcs i (Tk.cells L[i]) (by rw [List.getElem?_map, List.getElem?_eq_getElem hlt]; rfl)
      have ei := nx64 (m := L.length) hlt (by omega)
      have et : ((L.take (i + 1)).filter fun x => ss.contains x.st).map Tk.id = if ss.contains L[i].st = true then (((L.take i).filter fun x => ss.contains x.st).map Tk.id) ++ [L[i].id] else ((L.take i).filter fun x => ss.contains x.st).map Tk.id := by rw [take_next hlt, statesT_snoc]
      have hlG := hG.lt
      have hle2 : (((L.take i).filter fun x => ss.contains x.st).map Tk.id).length ≤ 32 := by
        have := List.length_filter_le (fun x : Tk => ss.contains x.st) (L.take i); rw [List.length_take] at this; rw [List.length_map]; omega
      generalize L[i] = q at *
      generalize ((L.take i).filter fun x => ss.contains x.st).map Tk.id = A at *
      refine ix (h0 := (by omega)) (h1 := (by omega)) (k := ?_)
      refine lhK (vs := q.cells) (ho10.block hb (by simp)) hpk (k := ?_)
      refine al hs (k := ?_); intro b7 w7 hz7 hs
      repeat' (first|refine vs (k:=?_)|(refine stA hs (k:=?_);intro w hs)|refine qRg ?_|refine Nx.h ?_|fail)
      have ho7 := hs.only0 rfl
      have g7 := hs.new _ List.mem_cons_self rfl
      simp only at g7
      (with_reducible apply xs_call); exact rfl; exact rfl; exact contains8_ret ss sl q.st hm _ (hL.only (ho0.trans ho7))
      rintro v8 w8 ⟨rfl, ho8⟩
      have hb7 := ho8.block (hs.get (b := b7) (by repeat (first | exact At.head | (with_reducible apply At.tail)))) (by simp)
      have ho08 := ho0.trans (ho7.trans ho8)
      have ho18 := ho10.trans (ho7.trans ho8)
      have hG8 := hG.keep (ho7.trans ho8) (by simp)
      have hlG8 := hG8.lt
      have hn7 : b7 ∉ G := fun hm => by have := hlG b7 hm; omega
      have hz0 := ho10.size
      have hz8 := (ho7.trans ho8).size
      clear hs
      have hs := (St.nil w8).trackT hb7
      by_cases hq : ss.contains q.st = true
      · rw [if_pos hq] at et
        rw [hq]
        repeat' (first|refine vs (k:=?_)|(refine bs hs (k:=?_);intro b w hz hs)|refine qRg ?_|refine Nx.h ?_|refine qCt ?_|fail)
        have hb2 := hs.get (At.head)
        have ho2 := hs.onlyF [] (by simp [hb7]) (by simp [D0])
        refine xs_appendW tabOk rfl rfl rfl rfl rfl rfl rfl (by decide) (lit_cells (news := [.int .i64 q.id]) hb2) (by simp [Value.oneCell']) (hG8.keep ho2 (by simp)) (by omega) (by omega) ?_
        intro v5' w4 ⟨G', hG', hGn'⟩ ho4
        have hz4 := ho2.size
        clear hs
        have hs := St.nil w4
        repeat' (first|refine vs (k:=?_)|refine qRg ?_|refine Nx.h ?_|fail)
        refine loopS_next (i + 1, v5') (by show L.length - (i + 1) < L.length - i; omega) (by (repeat (first | exact agree_nil | (apply agree_cons; first | exact rfl | exact congrArg (Value.int .i64) ei)))) ⟨by show i + 1 ≤ _; omega, ((ho08.trans ho2).news (fun k hk => by have := hGn k hk; have := hoA.size; omega) ho4).trans (hs.only0 rfl), ((ho18.trans ho2).news hGn ho4).trans (hs.only0 rfl), G', ?_, ?_⟩
        · simp only [et]
          exact SlV.app (w' := w4) (hG'.keep (hs.only0 rfl) (by simp))
        · intro k hk
          rcases hGn' k hk with h | h
          · exact hGn k h
          · omega
      · rw [if_neg hq] at et
        rw [show ss.contains q.st = false by simpa using hq]
        repeat' (first|refine vs (k:=?_)|refine qRg ?_|refine Nx.h ?_|refine qCf ?_|fail)
        have ho2 := hs.onlyF [] (by simp [hb7]) (by simp [D0])
        refine loopS_next (i + 1, v5) (by show L.length - (i + 1) < L.length - i; omega) (by (repeat (first | exact agree_nil | (apply agree_cons; first | exact rfl | exact congrArg (Value.int .i64) ei)))) ⟨by show i + 1 ≤ _; omega, ho08.trans ho2, ho18.trans ho2, G, ?_, hGn⟩
        simp only [et]
        exact hG8.keep ho2 (by simp)
    · have e : i = L.length := by omega
      subst e
      rw [List.take_length] at hG
      exact cutB_exit v5 (by (repeat (first | exact agree_nil | (apply agree_cons; exact rfl)))) ⟨ho0, G, hG, fun k hk => by have := hGn k hk; have := hoA.size; omega⟩
  · rintro v5 env w ⟨ho0, G, hG, hGn⟩
    clear hs
    have hs := St.nil w
    repeat' (first|refine vs (k:=?_)|refine qRg ?_|refine Nx.h ?_|fail)
    first | refine rt (hq := ?_) | refine rt' (hq := ?_)
    have ho3 := hs.only0 rfl
    exact ⟨⟨G, hG.keep ho3 (by simp), hGn⟩, ho0.trans ho3⟩
end Go.Proofs.YtilajmcellffiaaGreatDoorX

namespace Go.Proofs.YtilajmcellffiaaGreatDoorX
open Go Go.RowKit
section
variable {ops : Array Oper} {QE : Exit → Env → World → Prop} {n : Nat} {rest : List Oper} {env : Env} {w : World} {d : Option Nat} {ty : Nat} {pos : String} {aft : Array Edge} {g : Option (Nat × Bool)}
theorem rem8 {t t' : Nat} {x y : Operand} {a b : Int} (h0 : 0 ≤ a) (h2 : 0 < b) (hw : wantedE ops env g = true := by exact rfl) (hx : ev env x = .int .u8 a := by exact rfl) (hy : ev env y = .int .u8 b := by exact rfl)
    (k : XS Tryz.prog ops QE n rest (updO env d (.int .u8 (a % b))) w) : XS Tryz.prog ops QE n (⟨d, .binOp .rem t x y t', ty, pos, aft, g⟩ :: rest) env w :=
  xs_val hw (by rw [r_rem (by omega) hx hy, Int.tmod_eq_emod_of_nonneg h0]) k
end
end Go.Proofs.YtilajmcellffiaaGreatDoorX

namespace Go.Proofs.YtilajmcellffiaaGreatDoorX
open Go Go.RowKit
attribute [local irreducible] XS XC XA thenE blockE retE loopE loopS cutB cutN doneE SE
section
variable {ops : Array Oper} {QE : Exit → Env → World → Prop} {n : Nat} {rest : List Oper} {env : Env} {w : World}
  {d : Option Nat} {ty : Nat} {pos : String} {aft : Array Edge} {g : Option (Nat × Bool)}
end
end Go.Proofs.YtilajmcellffiaaGreatDoorX

namespace Go.Proofs.YtilajmcellffiaaGreatDoorX
open Go Go.RowKit
attribute [local irreducible] XS XC XA thenE blockE retE loopE loopS cutB cutN doneE SE
abbrev acO (a : Ac) : Obj := .cells #[.int .u8 a.d, .int .i64 a.x.id, .int .u8 a.x.st, .int .i64 a.x.core, .int .u32 a.x.w, .int .u64 a.x.slice, .int .i64 a.x.lag] 91 (0, 0)
theorem TabAt.not {w : World} {tb rb : Nat} {l : List Tk} (h : TabAt w tb rb l) {b : Nat} {a : Ac} (hb : w.heap[b]? = some (acO a)) : b ≠ tb ∧ b ≠ rb := by
  obtain ⟨cap, rest, h1, h2, _⟩ := h
  constructor
  · rintro rfl; rw [h1] at hb; injection hb with hb; injection hb with _ he; exact absurd he (by decide)
  · rintro rfl; rw [h2] at hb; injection hb with hb; injection hb with _ he; exact absurd he (by decide)
end Go.Proofs.YtilajmcellffiaaGreatDoorX

namespace Go.Proofs.YtilajmcellffiaaGreatDoorX
open Go Go.RowKit
attribute [local irreducible] XS XC XA thenE blockE retE loopE loopS cutB cutN doneE SE
end Go.Proofs.YtilajmcellffiaaGreatDoorX

namespace Go.Proofs.YtilajmcellffiaaGreatDoorX
open Go Go.RowKit
attribute [local irreducible] XS XC XA thenE blockE retE loopE loopS cutB cutN doneE SE
theorem TabAt.lt {w : World} {tb rb : Nat} {l : List Tk} (h : TabAt w tb rb l) : tb < w.heap.size ∧ rb < w.heap.size := by
  obtain ⟨cap, rest, h1, h2, _⟩ := h
  exact ⟨lt_of_block h1, lt_of_block h2⟩
end Go.Proofs.YtilajmcellffiaaGreatDoorX

namespace Go.Proofs.YtilajmcellffiaaGreatDoorX
open Go Go.RowKit Go.Maps
def RngAt (w : World) (b r : Nat) (f : Int → Option Value) (c cnt : Nat) : Prop :=
  ∃ (D : DataW Value) (left : Lit → Bool), w.ranges Tryz.prog 3 hld b r c D left cnt ∧ Maps.size D = c ∧ (∀ i, In64 i → Maps.has D (keyL i) = (f i).isSome ∧ ∀ z, D.atKey (keyL i) (.held z) = .held ((f i).getD z)) ∧ ∀ kl, left kl = true → Maps.has D kl = true
theorem RngAt.map {w : World} {b r c cnt : Nat} {f : Int → Option Value} (h : RngAt w b r f c cnt) : MapAt w b f c := by
  obtain ⟨D, left, h1, h2, h3, _⟩ := h
  exact ⟨D, h1.owns, h2, h3⟩
theorem RngAt.keep {w w' : World} {b r c cnt : Nat} {f : Int → Option Value} {F : List Nat} (h : RngAt w b r f c cnt) (ho : Only F w w') (hb : b ∉ F) (hr : r ∉ F) : RngAt w' b r f c cnt := by
  obtain ⟨D, left, ⟨es, clock, since, seen, c0, hb0, F0, hs, hD, hr0, rest⟩, h2⟩ := h
  exact ⟨D, left, ⟨es, clock, since, seen, c0, ho.block hb0 hb, F0, hs, hD, ho.block hr0 hr, rest⟩, h2⟩
section
variable {ops : Array Oper} {QE : Exit → Env → World → Prop} {n : Nat} {rest : List Oper} {env : Env} {w wb : World} {D : Ctx} {H : List Ent} {d : Option Nat} {ty : Nat} {pos : String} {aft : Array Edge} {g : Option (Nat × Bool)}
theorem xs_range {t e b c : Nat} {f : Int → Option Value} {x : Operand} (hM : MapAt w b f c) (ht : Tryz.prog.underlying t = some (.map 3 e)) (hw : wantedE ops env g = true := by exact rfl) (hx : ev env x = .map (some b) := by exact rfl)
    (k : ∀ r w', RngAt w' b r f c c → Only [] w w' → w.heap.size ≤ r → XS Tryz.prog ops QE n rest (updO env d (.pointer (some ⟨r, 0, none⟩))) w') : XS Tryz.prog ops QE n (⟨d, .range t x, ty, pos, aft, g⟩ :: rest) env w := by
  obtain ⟨D, h1, h2, h3⟩ := hM
  obtain ⟨w', hr, h4, h5, h6⟩ := h1.range intK ht
  rw [h2] at h4
  refine XS.value hw (v := .pointer (some ⟨w.heap.size, 0, none⟩)) (w' := w') (by simp [execOp, hx, Sem.run_bind, hr]) (k _ w' ⟨D, _, h4, h2, h3, fun _ h => h⟩ ?_ (Nat.le_refl _))
  obtain ⟨g1, g2, g3, g4, g5⟩ := h5
  exact ⟨g1, g2, g3, g4, fun k hk hn => g5 k hk (by simp)⟩
theorem xs_next {b r c cnt : Nat} {f : Int → Option Value} {x : Operand} (hR : RngAt w b r f c cnt) (hw : wantedE ops env g = true := by exact rfl) (hx : ev env x = .pointer (some ⟨r, 0, none⟩) := by exact rfl)
    (k0 : XS Tryz.prog ops QE n rest (updO env d (.tuple #[.bool false])) w)
    (k1 : ∀ i v w' cnt', In64 i → f i = some v → cnt' < cnt → RngAt w' b r f c cnt' → Only [r] w w' → (Instr.entry (.pointer (some ⟨r, 0, none⟩))).run Tryz.prog w' = .ok (.tuple #[.int .i64 i, v]) w' → XS Tryz.prog ops QE n rest (updO env d (.tuple #[.bool true, .int .i64 i, v])) w') :
    XS Tryz.prog ops QE n (⟨d, .next x false, ty, pos, aft, g⟩ :: rest) env w := by
  obtain ⟨D, left, h1, h2, h3, h4⟩ := hR
  rcases h1.next intK ty with ⟨_, _, hr⟩ | ⟨key, v, kl, y, w', cnt', hk, hl, hv, ha, hr, h5, h6, h7, h8, h9⟩
  · exact XS.value hw (v := .tuple #[.bool false]) (w' := w) (by simp [execOp, hx, Sem.run_bind, hr]) k0
  · obtain ⟨i, rfl, rfl, hwf⟩ := Maps.keyOf_i64 (by kernel_rfl) hk
    have e1 : IntKind.i64.min = -9223372036854775808 := rfl
    have e2 : IntKind.i64.max = 9223372036854775807 := rfl
    have hwf' : (decide (IntKind.i64.min ≤ i) && decide (i ≤ IntKind.i64.max)) = true := hwf
    simp only [Bool.and_eq_true, decide_eq_true_eq, e1, e2] at hwf'
    have hi : In64 i := ⟨hwf'.1, by omega⟩
    obtain ⟨a1, a2⟩ := h3 i hi
    have hs : (f i).isSome = true := a1.symm.trans (h4 _ hl)
    have hy : y.1 = .held v := by unfold hld at hv; cases hv; rfl
    have hfv : f i = some v := by
      have := (a2 v).symm.trans ((ha (.held v)).trans hy)
      injection this with e
      obtain ⟨u, hu⟩ := Option.isSome_iff_exists.1 hs
      rw [hu] at e ⊢
      exact congrArg some e
    refine XS.value hw (v := .tuple #[.bool true, .int .i64 i, v]) (w' := w') (by simp [execOp, hx, Sem.run_bind, hr]) (k1 i v w' cnt' hi hfv h6 ⟨D, _, h5, h2, h3, fun kl' hkl => h4 kl' (by simp at hkl; exact hkl.1)⟩ ?_ h9)
    exact Only.of_grown h7
theorem xs_entry {r : Nat} {u : Value} {x : Operand} (hE : (Instr.entry (.pointer (some ⟨r, 0, none⟩))).run Tryz.prog w = .ok u w) (hw : wantedE ops env g = true := by exact rfl) (hx : ev env x = .pointer (some ⟨r, 0, none⟩) := by exact rfl)
    (k : XS Tryz.prog ops QE n rest (updO env d u) w) : XS Tryz.prog ops QE n (⟨d, .entry x, ty, pos, aft, g⟩ :: rest) env w :=
  xs_val hw (by simp [execOp, hx, Sem.run_bind, hE]) k
end
end Go.Proofs.YtilajmcellffiaaGreatDoorX

namespace Go.Proofs.YtilajmcellffiaaGreatDoorX
open Go Go.RowKit
theorem findT_out {l : List Tk} {id : Int} (h : ¬ (1 ≤ id ∧ id ≤ l.length)) : findT l id = none := by
  unfold findT
  rw [if_neg (fun k => h ⟨k.1, k.2.1⟩)]
theorem findT_set {l : List Tk} {i : Nat} (y : Tk) (hi : i < l.length) (id : Int) : findT (l.set i y) id = if id = (i : Int) + 1 then (if y.st ≠ 0 then some i else none) else findT l id := by
  by_cases h : 1 ≤ id ∧ id ≤ l.length
  · obtain ⟨j, rfl⟩ : ∃ j : Nat, id = (j : Int) + 1 := ⟨(id - 1).toNat, by omega⟩
    have hj : j < l.length := by omega
    by_cases e : j = i
    · subst e
      rw [if_pos rfl, findT_row (l := l.set j y) (i := j) (x := y) (by rw [List.getElem?_set_self hi])]
    · rw [if_neg (by omega), findT_row (l := l.set i y) (i := j) (x := l[j]) (by rw [List.getElem?_set_ne (Ne.symm e)]; exact List.getElem?_eq_getElem hj), findT_row (List.getElem?_eq_getElem hj)]
  · rw [if_neg (by omega), findT_out h, findT_out (by rw [List.length_set]; exact h)]
theorem freeT_row : ∀ {l : List Tk} {i : Nat}, freeT l = some i → ∃ y, l[i]? = some y ∧ y.st = 0
  | [], i, h => by cases h
  | x :: l, i, h => by
    unfold freeT at h
    by_cases e : x.st = 0
    · rw [if_pos e] at h
      cases h
      exact ⟨x, rfl, e⟩
    · rw [if_neg e] at h
      cases k : freeT l with
      | none => rw [k] at h; cases h
      | some j =>
        rw [k] at h
        cases h
        obtain ⟨y, h1, h2⟩ := freeT_row k
        exact ⟨y, by rw [List.getElem?_cons_succ]; exact h1, h2⟩
def LiveOk (l : List Tk) (f : Int → Option Value) : Prop := ∀ id, In64 id → (f id = none ∧ findT l id = none) ∨ f id = some (.int .i64 (if (findT l id).isSome then 1 else 0))
theorem LiveOk.rep (m : Nat) : LiveOk (List.replicate m .zero) (fun _ => none) := fun id _ => .inl ⟨rfl, by
  by_cases h : 1 ≤ id ∧ id ≤ (List.replicate m Tk.zero).length
  · obtain ⟨j, rfl⟩ : ∃ j : Nat, id = (j : Int) + 1 := ⟨(id - 1).toNat, by omega⟩
    have hj : j < (List.replicate m Tk.zero).length := by omega
    rw [findT_row (List.getElem?_eq_getElem hj), List.getElem_replicate, if_neg (fun h => h rfl)]
  · exact findT_out h⟩
theorem LiveOk.upd {l : List Tk} {f : Int → Option Value} (h : LiveOk l f) {i : Nat} (hi : i < l.length) (y : Tk) : LiveOk (l.set i y) (updF f ((i : Int) + 1) (some (.int .i64 (if y.st ≠ 0 then 1 else 0)))) := fun id hid => by
  rw [findT_set y hi id]
  unfold updF
  by_cases e : id = (i : Int) + 1
  · rw [decide_eq_true e, cond_true, if_pos e]
    refine .inr ?_
    by_cases hy : y.st = 0
    · simp [hy]
    · simp [hy]
  · rw [decide_eq_false e, cond_false, if_neg e]
    exact h id hid
theorem LiveOk.free {l : List Tk} {f : Int → Option Value} (h : LiveOk l f) {i : Nat} (hi : freeT l = some i) (hm : l.length ≤ 32) : (f ((i : Int) + 1)).getD (.int .i64 0) = .int .i64 0 := by
  have hlt := freeT_lt hi
  obtain ⟨y, h1, h2⟩ := freeT_row hi
  have e := findT_row h1
  rw [if_neg (fun h => h h2)] at e
  rcases h ((i : Int) + 1) (by unfold In64; omega) with ⟨k, _⟩ | k
  · rw [k]; rfl
  · rw [k, e]; rfl
theorem LiveOk.there {l : List Tk} {f : Int → Option Value} (h : LiveOk l f) {id : Int} {i : Nat} (hi : findT l id = some i) (hid : In64 id) : (f id).getD (.int .i64 0) = .int .i64 1 := by
  rcases h id hid with ⟨_, k⟩ | k
  · rw [k] at hi; cases hi
  · rw [k, hi]; rfl
def addF (l : List Tk) (x : Tk) (f : Int → Option Value) : Int → Option Value := if addE l x = 0 then updF f (addI l x) (some (.int .i64 1)) else f
theorem LiveOk.add {l : List Tk} {f : Int → Option Value} (h : LiveOk l f) (x : Tk) (hm : l.length ≤ 32) : LiveOk (addT l x) (addF l x f) ∧ (addE l x = 0 → (f (addI l x)).getD (.int .i64 0) = .int .i64 0 ∧ In64 (addI l x)) := by
  unfold addF addT addI addE
  cases hr : rightT x with
  | false => exact ⟨h, fun e => by cases e⟩
  | true =>
    cases e : freeT l with
    | none => exact ⟨h, fun e => by cases e⟩
    | some i =>
      have hlt := freeT_lt e
      refine ⟨?_, fun _ => ⟨h.free e hm, by show In64 ((i : Int) + 1); unfold In64; omega⟩⟩
      have := h.upd hlt { x with id := (i : Int) + 1 }
      rw [if_pos (show ({ x with id := (i : Int) + 1 } : Tk).st ≠ 0 from right_st (x := x) hr)] at this
      exact this
def dropF (l : List Tk) (id : Int) (f : Int → Option Value) : Int → Option Value := if errT (findT l id) = 0 then updF f id (some (.int .i64 0)) else f
theorem LiveOk.drop {l : List Tk} {f : Int → Option Value} (h : LiveOk l f) {id : Int} (hid : In64 id) : LiveOk (dropT l id) (dropF l id f) ∧ (errT (findT l id) = 0 → (f id).getD (.int .i64 0) = .int .i64 1) := by
  unfold dropF dropT
  cases e : findT l id with
  | none => exact ⟨h, fun e => by cases e⟩
  | some i =>
    obtain ⟨hlt, rfl⟩ := findT_lt e
    refine ⟨?_, fun _ => h.there e hid⟩
    have := h.upd hlt .zero
    rw [if_neg (fun h => h rfl)] at this
    exact this
theorem sum3 : ∀ {L : List Tk}, (∀ x ∈ L, x.st = 1 ∨ x.st = 2 ∨ x.st = 3) → (L.filter fun x => [1].contains x.st).length + (L.filter fun x => [2].contains x.st).length + (L.filter fun x => [3].contains x.st).length = L.length
  | [], _ => rfl
  | x :: L, h => by
    have ih := sum3 (L := L) fun y hy => h y (List.mem_cons_of_mem _ hy)
    have e : ∀ s : Int, ([s].contains x.st) = decide (x.st = s) := fun s => by simp
    rw [List.filter_cons, List.filter_cons, List.filter_cons, List.length_cons]
    simp only [e, decide_eq_true_eq]
    rcases h x List.mem_cons_self with k | k | k <;> simp [k] <;> simp at ih <;> omega
theorem live_st {l : List Tk} {k : Nat} (hI : IdsOk k l) : ∀ x ∈ liveT l, x.st = 1 ∨ x.st = 2 ∨ x.st = 3 := fun x hx => by
  obtain ⟨a, i, b⟩ := mem_live hx
  have h := (hI.get b a).2
  unfold rightT at h
  rw [Bool.and_eq_true, decide_eq_true_iff, decide_eq_true_iff] at h
  omega
theorem states_sum {l : List Tk} {k : Nat} (hI : IdsOk k l) : (statesT l [1]).length + (statesT l [2]).length + (statesT l [3]).length = (liveT l).length := by
  unfold statesT
  rw [List.length_map, List.length_map, List.length_map]
  exact sum3 (live_st hI)
theorem states_none {l : List Tk} {ss : List Int} {k : Nat} (hI : IdsOk k l) (h : ss.contains 1 = false ∧ ss.contains 2 = false ∧ ss.contains 3 = false) : statesT l ss = [] := by
  unfold statesT
  rw [List.filter_eq_nil_iff.2 fun x hx => ?_]
  · rfl
  · obtain ⟨h1, h2, h3⟩ := h
    rcases live_st hI x hx with e | e | e
    · rw [e, h1]; simp
    · rw [e, h2]; simp
    · rw [e, h3]; simp
theorem statesT_le (l : List Tk) (ss : List Int) (hm : l.length ≤ 32) : (statesT l ss).length ≤ 32 := by
  unfold statesT
  rw [List.length_map]
  have k1 := List.length_filter_le (fun x : Tk => ss.contains x.st) (liveT l)
  have k2 : (liveT l).length ≤ l.length := List.length_filter_le (fun x : Tk => decide (x.st ≠ 0)) l
  omega
end Go.Proofs.YtilajmcellffiaaGreatDoorX

namespace Go.Proofs.YtilajmcellffiaaGreatDoorX
open Go Go.RowKit
attribute [local irreducible] XS XC XA thenE blockE retE loopE loopS cutB cutN doneE SE
theorem TabAt.noMap {w : World} {tb rb : Nat} {l : List Tk} (h : TabAt w tb rb l) {mb c : Nat} {f : Int → Option Value} (hM : MapAt w mb f c) : tb ≠ mb ∧ rb ≠ mb := by
  obtain ⟨cap, rest, h1, h2, _⟩ := h
  exact ⟨hM.ne h1, hM.ne h2⟩
theorem lit1 {w : World} {b : Nat} (s : Int) (hb : w.heap[b]? = some (.cells #[.int .u8 s] 5 (0, 0))) : LsX w 1 (.slice (some ⟨b, 0, none⟩) 1 1) ([s].map uR) :=
  (lit_ls (e := 5) (n := 1) (k := 1) (xs := [s].map uR) hb rfl (fun x hx => by obtain ⟨e, _, rfl⟩ := List.mem_map.1 hx; rfl) rfl).x
theorem lit0 (w : World) : LsX w 1 (.slice none 0 0) (([] : List Int).map uR) := ⟨none, 0, rfl, fun h => absurd rfl h⟩
theorem wrap3 {a b c : Nat} (ha : a ≤ 32) (hb : b ≤ 32) (hc : c ≤ 32) : IntKind.i64.wrap (IntKind.i64.wrap ((a : Int) + (b : Int)) + (c : Int)) = ((a + b + c : Nat) : Int) := by
  have h1 : IntKind.i64.wrap ((a : Int) + (b : Int)) = ((a + b : Nat) : Int) := by rw [wrap_i64]; omega
  rw [h1, wrap_i64]; omega
def once (l : List Tk) (a : Ac) : List Tk := if a.d % 6 < 3 then addT l a.x else dropT l a.x.id
def onceF (l : List Tk) (a : Ac) (f : Int → Option Value) : Int → Option Value := if a.d % 6 < 3 then addF l a.x f else dropF l a.x.id f
set_option maxHeartbeats 16000000 in
theorem tableOnce_ret (n : Int) (xs : List Ac) (sl : Value) (hn : In64 n) (hx : ∀ a ∈ xs, a.In) (w0 : World) (hL : LsX w0 7 sl (xs.map Ac.cells)) (ht : Pows w0) : Ret Tryz.prog 8 #[.int .i64 n, sl] w0 fun v w' => v = .bool true ∧ Only [] w0 w' := by
  obtain ⟨ad, cap, rfl, hD⟩ := hL
  rw [List.length_map]
  have hs := St.nil w0
  refine ret_of_xc Tryz.func8 (by kernel_rfl) rfl Tryz.ntmps8 rfl rfl rfl ?_
  repeat' (first|refine vs (k:=?_)|refine qRg ?_|refine Nx.h ?_|fail)
  (with_reducible apply xs_call); exact rfl; exact rfl; exact awake20_ret _ (tab_only ht (hs.only0 rfl))
  rintro v w' ⟨rfl, ho⟩; replace hs := hs.call0 ho; repeat' (first|refine vs (k:=?_)|refine qRg ?_|refine Nx.h ?_|refine qCf ?_|(refine xc_if rfl (fun hc=>?_) (fun hc=>?_))|fail)
  · first | refine rt (hq := ?_) | refine rt' (hq := ?_)
    exact ⟨rfl, hs.only0 rfl⟩
  have hm : xs.length ≤ 100 := by omega
  (with_reducible apply xs_call); exact rfl; exact rfl; exact tnew_ret n _
  rintro v w1 ⟨⟨tb, rb, rfl, hT, g1, g2, hne⟩, ho1⟩
  have hoA := (hs.only0 rfl).trans ho1
  have hz := (hs.only0 rfl).size
  have hz1 := ho1.size
  clear hs
  have hs := St.nil w1
  repeat' (first|refine vs (k:=?_)|refine qRg ?_|refine Nx.h ?_|fail)
  refine xs_mapNew (k := ?_)
  intro mb w2 ho2 hM0 gm
  have hoB := hoA.trans ho2
  have gmb : w0.heap.size ≤ mb := by have := hoA.size; have := (hs.only0 rfl).size; omega
  have hT2 := hT.only ho2
  clear hs hT
  have hs := St.nil w2
  repeat' (first|refine vs (k:=?_)|refine qRg ?_|refine Nx.h ?_|fail)
  refine xc_cutB (fun (_ : List Tk) => [(5, .pointer (some ⟨tb, 0, none⟩))]) (fun l w => IdsOk 0 l ∧ TabAt w tb rb l ∧ Only [] w0 w) ?_ ?_
  · refine xc_loopS (fun (x : Nat × List Tk × (Int → Option Value) × Nat) => [(5, .pointer (some ⟨tb, 0, none⟩)), (6, .map (some mb)), (23, .slice ad xs.length cap), (24, .int .i64 (xs.length : Nat)), (25, .int .i64 (x.1 : Nat))])
      (fun x w => x.1 ≤ xs.length ∧ IdsOk 0 x.2.1 ∧ LiveOk x.2.1 x.2.2.1 ∧ x.2.2.2 ≤ x.1 ∧ TabAt w tb rb x.2.1 ∧ MapAt w mb x.2.2.1 x.2.2.2 ∧ Only [] w0 w) (fun x => xs.length - x.1) (0, List.replicate (sizeT n) .zero, fun _ => none, 0) (by (repeat (first | exact agree_nil | (apply agree_cons; exact rfl)))) ⟨Nat.zero_le _, IdsOk.rep _ _, LiveOk.rep _, Nat.le_refl _, hT2.only (hs.only0 rfl), hM0.keep (hs.only0 rfl) (by simp), hoB.trans (hs.only0 rfl)⟩ fun x env wl ⟨hi, hI0, hF, hc0, hT, hM, ho0⟩ => ?_
    obtain ⟨i, l, f, c⟩ := x
    simp only at hi hI0 hF hc0 hT hM
    clear hs
    have hs := St.nil wl
    repeat' (first|refine vs (k:=?_)|refine qRg ?_|refine Nx.h ?_|(refine xc_if rfl (fun hc=>?_) (fun hc=>?_))|fail)
    · have hlt : i < xs.length := by omega
      obtain ⟨b, off, cs, E, fz, rfl, hb, hcs⟩ := hD (fun h => by have := congrArg List.length h; rw [List.length_map, List.length_nil] at this; omega)
      have hpk := hcs i (Ac.cells xs[i]) (by rw [List.getElem?_map, List.getElem?_eq_getElem hlt]; rfl)
      have ei := nx64 (m := xs.length) hlt (by omega)
      obtain ⟨⟨d0, d1⟩, hq⟩ := hx xs[i] (List.getElem_mem hlt)
      obtain ⟨i1, ⟨s0, s1⟩, _⟩ := hq
      have hl32 : l.length ≤ 32 := by obtain ⟨_, _, _, _, h3, _⟩ := hT; exact h3
      have hcc : ∀ b : Bool, (if b = true then c else c + 1) ≤ i + 1 := fun b => by cases b <;> simp <;> omega
      generalize xs[i] = q at *
      refine ix (h0 := (by omega)) (h1 := (by omega)) (k := ?_)
      refine lhK (vs := q.cells) (ho0.block hb (by simp)) hpk (k := ?_)
      refine al hs (k := ?_); intro b8 w6 hz6 hs
      refine stA hs (k := ?_); intro w7 hs
      have h8 := hs.get At.head
      have ho7 := hs.only0 rfl
      have hT7 := hT.only ho7
      have hM7 := hM.keep ho7 (by simp)
      have ho07 := ho0.trans ho7
      have n8 := hT7.not h8
      have m8 := hM7.ne h8
      have hn := hT7.noMap hM7
      clear hs
      have hs := (St.nil w7).trackT h8
      refine XS.nil ?_
      refine then_of ?_
      refine xc_seq ?_
      refine xc_cutN (fun _ : Nat => [(5, .pointer (some ⟨tb, 0, none⟩)), (6, .map (some mb)), (23, .slice (some ⟨b, off, none⟩) xs.length cap), (24, .int .i64 (xs.length : Nat)), (25, .int .i64 (i : Nat))])
        (fun c w => c ≤ i + 1 ∧ IdsOk 0 (once l q) ∧ LiveOk (once l q) (onceF l q f) ∧ TabAt w tb rb (once l q) ∧ MapAt w mb (onceF l q f) c ∧ Only [] w0 w) ?_ ?_
      · refine xc_seq ?_
        repeat' (first|refine vs (k:=?_)|refine qRg ?_|fail)
        refine rem8 (b := 6) d0 (by decide) (k := ?_)
        repeat' (first|refine vs (k:=?_)|refine qRg ?_|refine Nx.h ?_|(refine xc_if rfl (fun hc=>?_) (fun hc=>?_))|fail)
        · have hd : q.d % 6 < 3 := by simpa using hc
          have eA : once l q = addT l q.x := if_pos hd
          have eF : onceF l q f = addF l q.x f := if_pos hd
          rw [eA, eF]
          have ho8 := hs.onlyF [] (by simp [h8]) (by simp [D0])
          (with_reducible apply xs_call); exact rfl; exact rfl; exact tadd_ret tb rb l q.x _ (hT7.only ho8)
          obtain ⟨hF2, hF3⟩ := hF.add q.x hl32
          rintro v w8 ⟨rfl, hT8, ho9⟩
          have hM8 := (hM7.keep ho8 (by simp)).keep ho9 (by simpa using Ne.symm hn.2)
          have ho08 := (ho07.trans ho8).step ho9 (fun k hk => .inr (by obtain rfl := List.mem_singleton.1 hk; omega))
          clear hs
          have hs := St.nil w8
          by_cases he : addE l q.x = 0
          · obtain ⟨k1, k2⟩ := hF3 he
            have eF2 : addF l q.x f = updF f (addI l q.x) (some (.int .i64 1)) := if_pos he
            rw [eF2] at hF2 ⊢
            rw [he]
            repeat' (first|refine vs (k:=?_)|refine qRg ?_|refine Nx.h ?_|refine qCt ?_|fail)
            refine xs_look1 (hM8.keep (hs.only0 rfl) (by simp)) k2 (z := .int .i64 0) (by kernel_rfl) (e := 3) (by kernel_rfl) (k := ?_)
            rw [k1]
            refine vs (k := ?_)
            refine xs_mapPut (hM8.keep (hs.only0 rfl) (by simp)) k2 (by show c < 9223372036854775807; omega) (e := 3) (by kernel_rfl) (k := ?_)
            intro w9 hM9 ho9
            have hoX := hs.only0 rfl
            have hT9 := (hT8.only hoX).keep ho9 (by simpa using hn.1) (by simpa using hn.2)
            have ho09 := (ho08.trans hoX).step ho9 (fun k hk => .inr (by obtain rfl := List.mem_singleton.1 hk; omega))
            clear hs
            have hs := St.nil w9
            repeat' (first|refine Nx.h ?_|fail)
            exact cutN_normal _ (by (repeat (first | exact agree_nil | (apply agree_cons; exact rfl)))) ⟨hcc _, hI0.add q.x, hF2, hT9.only (hs.only0 rfl), MapAt.keep hM9 (hs.only0 rfl) (by simp), ho09.trans (hs.only0 rfl)⟩
          · have eF2 : addF l q.x f = f := if_neg he
            rw [eF2] at hF2 ⊢
            repeat' (first|refine vs (k:=?_)|refine qRg ?_|refine Nx.h ?_|(refine xc_if rfl (fun hc=>?_) (fun hc=>?_))|fail)
            · exact absurd (by simpa using hc) he
            · exact cutN_normal c (by (repeat (first | exact agree_nil | (apply agree_cons; exact rfl)))) ⟨by omega, hI0.add q.x, hF2, hT8.only (hs.only0 rfl), hM8.keep (hs.only0 rfl) (by simp), ho08.trans (hs.only0 rfl)⟩
        · have hd : ¬ q.d % 6 < 3 := by simpa using hc
          have eA : once l q = dropT l q.x.id := if_neg hd
          have eF : onceF l q f = dropF l q.x.id f := if_neg hd
          rw [eA, eF]
          have ho8 := hs.onlyF [] (by simp [h8]) (by simp [D0])
          (with_reducible apply xs_call); exact rfl; exact rfl; exact tdrop_ret tb rb l q.x.id _ (hT7.only ho8) i1
          obtain ⟨hF2, hF3⟩ := hF.drop (id := q.x.id) i1
          rintro v w8 ⟨rfl, hT8, ho9⟩
          have hM8 := (hM7.keep ho8 (by simp)).keep ho9 (by simpa using Ne.symm hn.2)
          have k8 := ho9.block (ho8.block h8 (by simp)) (by simpa using n8.2)
          have ho08 := (ho07.trans ho8).step ho9 (fun k hk => .inr (by obtain rfl := List.mem_singleton.1 hk; omega))
          clear hs
          have hs := (St.nil w8).trackT k8
          by_cases he : errT (findT l q.x.id) = 0
          · have k1 := hF3 he
            have eF2 : dropF l q.x.id f = updF f q.x.id (some (.int .i64 0)) := if_pos he
            rw [eF2] at hF2 ⊢
            rw [he]
            repeat' (first|refine vs (k:=?_)|refine qRg ?_|refine Nx.h ?_|refine qCt ?_|fail)
            have hoX := hs.onlyF [] (by simp [k8]) (by simp [D0])
            refine xs_look1 (hM8.keep hoX (by simp)) i1 (z := .int .i64 0) (by kernel_rfl) (e := 3) (by kernel_rfl) (k := ?_)
            rw [k1]
            refine vs (k := ?_)
            refine xs_mapPut (hM8.keep hoX (by simp)) i1 (by show c < 9223372036854775807; omega) (e := 3) (by kernel_rfl) (k := ?_)
            intro w9 hM9 ho9
            have hT9 := (hT8.only hoX).keep ho9 (by simpa using hn.1) (by simpa using hn.2)
            have ho09 := (ho08.trans hoX).step ho9 (fun k hk => .inr (by obtain rfl := List.mem_singleton.1 hk; omega))
            clear hs
            have hs := St.nil w9
            repeat' (first|refine Nx.h ?_|fail)
            exact cutN_normal _ (by (repeat (first | exact agree_nil | (apply agree_cons; exact rfl)))) ⟨hcc _, hI0.drop q.x.id, hF2, hT9.only (hs.only0 rfl), MapAt.keep hM9 (hs.only0 rfl) (by simp), ho09.trans (hs.only0 rfl)⟩
          · have eF2 : dropF l q.x.id f = f := if_neg he
            rw [eF2] at hF2 ⊢
            repeat' (first|refine vs (k:=?_)|refine qRg ?_|refine Nx.h ?_|(refine xc_if rfl (fun hc=>?_) (fun hc=>?_))|fail)
            · exact absurd (by simpa using hc) he
            · have hoX := hs.onlyF [] (by simp [k8]) (by simp [D0])
              exact cutN_normal c (by (repeat (first | exact agree_nil | (apply agree_cons; exact rfl)))) ⟨by omega, hI0.drop q.x.id, hF2, hT8.only hoX, hM8.keep hoX (by simp), ho08.trans hoX⟩
      generalize once l q = l2
      generalize onceF l q f = f2
      clear hT hM hT7 hM7 hs
      rintro c2 env w10 ⟨hc2, hI2, hF2, hT, hM, ho10⟩
      have hs := St.nil w10
      repeat' (first|refine vs (k:=?_)|refine qRg ?_|refine Nx.h ?_|fail)
      have hoX := hs.only0 rfl
      refine xs_range (hM.keep hoX (by simp)) (e := 3) (by kernel_rfl) (k := ?_)
      intro r w11 hR ho11 gr
      have hzX := hoX.size
      have ltT := hT.lt
      have hT11 := (hT.only hoX).only ho11
      have ho011 := (ho10.trans hoX).trans ho11
      have hz10 := ho10.size
      clear hs
      have hs := St.nil w11
      repeat' (first|refine Nx.h ?_|fail)
      refine xc_cutB (fun (_ : Unit) => [(5, .pointer (some ⟨tb, 0, none⟩)), (6, .map (some mb)), (23, .slice (some ⟨b, off, none⟩) xs.length cap), (24, .int .i64 (xs.length : Nat)), (25, .int .i64 (i : Nat))]) (fun _ w => TabAt w tb rb l2 ∧ MapAt w mb f2 c2 ∧ Only [] w0 w) ?_ ?_
      · refine xc_loopS (fun (k : Nat) => [(5, .pointer (some ⟨tb, 0, none⟩)), (6, .map (some mb)), (59, .pointer (some ⟨r, 0, none⟩)), (23, .slice (some ⟨b, off, none⟩) xs.length cap), (24, .int .i64 (xs.length : Nat)), (25, .int .i64 (i : Nat))])
          (fun k w => RngAt w mb r f2 c2 k ∧ TabAt w tb rb l2 ∧ Only [] w0 w) (fun k => k) c2 (by (repeat (first | exact agree_nil | (apply agree_cons; exact rfl)))) ⟨hR.keep (hs.only0 rfl) (by simp) (by simp), hT11.only (hs.only0 rfl), ho011.trans (hs.only0 rfl)⟩ fun cnt env wr ⟨hR, hT, hor⟩ => ?_
        clear hs
        have hs := St.nil wr
        repeat' (first|refine Nx.h ?_|fail)
        refine xc_region ?_ ?_; exact rfl
        refine xs_next hR (k0 := ?_) (k1 := ?_)
        · repeat' (first|refine vs (k:=?_)|refine Nx.h ?_|refine qCf ?_|fail)
          exact cutB_exit () (by (repeat (first | exact agree_nil | (apply agree_cons; exact rfl)))) ⟨hT.only (hs.only0 rfl), hR.map.keep (hs.only0 rfl) (by simp), hor.trans (hs.only0 rfl)⟩
        · intro id v w12 cnt' hid hfv hcnt hR2 ho12 hE
          have hT12 := hT.keep ho12 (by simp; omega) (by simp; omega)
          have hor12 := hor.step ho12 (fun k hk => .inr (by obtain rfl := List.mem_singleton.1 hk; omega))
          clear hs
          have hs := St.nil w12
          refine vs (k := ?_)
          repeat' (first|refine Nx.h ?_|refine qCt ?_|fail)
          refine xc_region ?_ ?_; exact rfl
          refine xs_entry hE (k := ?_)
          repeat' (first|refine vs (k:=?_)|refine qRg ?_|refine Nx.h ?_|fail)
          (with_reducible apply xs_call); exact rfl; exact rfl; exact ttask_ret tb rb l2 id _ (hT12.only (hs.only0 rfl)) hid
          have hv : v = .int .i64 (if (findT l2 id).isSome then 1 else 0) := by
            rcases hF2 id hid with ⟨k, _⟩ | k
            · rw [hfv] at k; cases k
            · exact Option.some.inj (hfv.symm.trans k)
          subst hv
          cases e : findT l2 id with
          | none =>
            rintro v w' ⟨rfl, ho⟩; replace hs := hs.call0 ho; repeat' (first|refine vs (k:=?_)|(refine stA hs (k:=?_);intro w hs)|(refine al hs (k:=?_);intro b w hz hs)|refine qRg ?_|refine Nx.h ?_|refine qCf ?_|fail)
            exact loopS_next cnt' hcnt (by (repeat (first | exact agree_nil | (apply agree_cons; exact rfl)))) ⟨hR2.keep (hs.only0 rfl) (by simp) (by simp), hT12.only (hs.only0 rfl), hor12.trans (hs.only0 rfl)⟩
          | some j =>
            rintro v w' ⟨rfl, ho⟩; replace hs := hs.call0 ho; repeat' (first|refine vs (k:=?_)|(refine stA hs (k:=?_);intro w hs)|(refine al hs (k:=?_);intro b w hz hs)|refine qRg ?_|refine Nx.h ?_|refine qCf ?_|fail)
            exact loopS_next cnt' hcnt (by (repeat (first | exact agree_nil | (apply agree_cons; exact rfl)))) ⟨hR2.keep (hs.only0 rfl) (by simp) (by simp), hT12.only (hs.only0 rfl), hor12.trans (hs.only0 rfl)⟩
      · rintro _ env w13 ⟨hT, hM, ho13⟩
        clear hs
        have hs := St.nil w13
        repeat' (first|refine vs (k:=?_)|refine qRg ?_|refine Nx.h ?_|fail)
        exact loopS_next (i + 1, l2, f2, c2) (by show xs.length - (i + 1) < xs.length - i; omega) (by (repeat (first | exact agree_nil | (apply agree_cons; first | exact rfl | exact congrArg (Value.int .i64) ei)))) ⟨by show i + 1 ≤ _; omega, hI2, hF2, hc2, hT.only (hs.only0 rfl), hM.keep (hs.only0 rfl) (by simp), ho13.trans (hs.only0 rfl)⟩
    · exact cutB_exit l (by (repeat (first | exact agree_nil | (apply agree_cons; exact rfl)))) ⟨hI0, hT, ho0⟩
  clear hs
  rintro l env w3 ⟨hI, hT, ho0⟩
  have hl32 : l.length ≤ 32 := by obtain ⟨_, _, _, _, h3, _⟩ := hT; exact h3
  have hs := St.nil w3
  repeat' (first|refine vs (k:=?_)|(refine bs hs (k:=?_);intro b w hz hs)|refine qRg ?_|refine Nx.h ?_|fail)
  have hoa := hs.only0 rfl
  have q1 := statesT_le l [1] hl32
  have q2 := statesT_le l [2] hl32
  have q3 := statesT_le l [3] hl32
  have hsum := states_sum hI
  (with_reducible apply xs_call); exact rfl; exact rfl; exact states_ret tb rb l [1] _ _ (hT.only hoa) (by decide) (lit1 1 (hs.get At.head))
  rintro v w4 ⟨⟨Ga, hGa, _⟩, ho4⟩
  obtain ⟨a1, p1, rfl⟩ := slv_form hGa
  have hT4 := (hT.only hoa).only ho4
  have ho04 := (ho0.trans hoa).trans ho4
  clear hs
  have hs := St.nil w4
  repeat' (first|refine vs (k:=?_)|(refine bs hs (k:=?_);intro b w hz hs)|fail)
  have hob := hs.only0 rfl
  (with_reducible apply xs_call); exact rfl; exact rfl; exact states_ret tb rb l [2] _ _ (hT4.only hob) (by decide) (lit1 2 (hs.get At.head))
  rintro v w5 ⟨⟨Gb, hGb, _⟩, ho5⟩
  obtain ⟨a2, p2, rfl⟩ := slv_form hGb
  have hT5 := (hT4.only hob).only ho5
  have ho05 := (ho04.trans hob).trans ho5
  clear hs
  have hs := St.nil w5
  repeat' (first|refine vs (k:=?_)|(refine bs hs (k:=?_);intro b w hz hs)|fail)
  have hoc := hs.only0 rfl
  (with_reducible apply xs_call); exact rfl; exact rfl; exact states_ret tb rb l [3] _ _ (hT5.only hoc) (by decide) (lit1 3 (hs.get At.head))
  rintro v w6 ⟨⟨Gc, hGc, _⟩, ho6⟩
  obtain ⟨a3, p3, rfl⟩ := slv_form hGc
  have hT6 := (hT5.only hoc).only ho6
  have ho06 := (ho05.trans hoc).trans ho6
  clear hs
  have hs := St.nil w6
  repeat' (first|refine vs (k:=?_)|fail)
  have hod := hs.only0 rfl
  (with_reducible apply xs_call); exact rfl; exact rfl; exact tasks_ret tb rb l _ (hT6.only hod)
  rintro v w7 ⟨⟨Gd, hGd, _⟩, ho7⟩
  obtain ⟨a4, p4, rfl⟩ := slv_form hGd
  have hT7 := (hT6.only hod).only ho7
  have ho07 := (ho06.trans hod).trans ho7
  clear hs
  have hs := St.nil w7
  rw [← hsum]
  generalize (statesT l [1]).length = m1 at *
  generalize (statesT l [2]).length = m2 at *
  generalize (statesT l [3]).length = m3 at *
  refine vs (k := ?_)
  refine vs (k := ?_)
  rw [wrap3 q1 q2 q3, beq_self_eq_true]
  repeat' (first|refine vs (k:=?_)|(refine bs hs (k:=?_);intro b w hz hs)|fail)
  have hoe := hs.only0 rfl
  (with_reducible apply xs_call); exact rfl; exact rfl; exact states_ret tb rb l [0] _ _ (hT7.only hoe) (by decide) (lit1 0 (hs.get At.head))
  rintro v w8 ⟨⟨Ge, hGe, _⟩, ho8⟩
  rw [states_none hI (by decide)] at hGe
  obtain ⟨a5, p5, rfl⟩ := slv_form hGe
  have hT8 := (hT7.only hoe).only ho8
  have ho08 := (ho07.trans hoe).trans ho8
  clear hs
  have hs := St.nil w8
  repeat' (first|refine vs (k:=?_)|fail)
  have hof := hs.only0 rfl
  (with_reducible apply xs_call); exact rfl; exact rfl; exact states_ret tb rb l [] _ _ (hT8.only hof) (by decide) (lit0 _)
  rintro v w9 ⟨⟨Gf, hGf, _⟩, ho9⟩
  rw [states_none hI (by decide)] at hGf
  obtain ⟨a6, p6, rfl⟩ := slv_form hGf
  have ho09 := (ho08.trans hof).trans ho9
  clear hs
  have hs := St.nil w9
  repeat' (first|refine vs (k:=?_)|refine Nx.h ?_|fail)
  first | refine rt (hq := ?_) | refine rt' (hq := ?_)
  exact ⟨rfl, ho09.trans (hs.only0 rfl)⟩
end Go.Proofs.YtilajmcellffiaaGreatDoorX

namespace Go.Proofs.YtilajmcellffiaaGreatDoorX
open Go Go.RowKit Go.ChangeShapes Go.WideShapes Go.ChangeAt
set_option maxRecDepth 100000 in
theorem tableOnce_lifted (os : Os) (started : os.Started) (H : Type) (enc : TypeId × Value → H) :
    ReturnsInHanded {} Tryz.checked os 8 .any (fun w args => (YtilajmcellffiaaGreatDoor.Rows.tableOnceSpec.pre enc Tryz.prog Tryz.f8 [] false w args ∧ laidMetH Tryz.prog [("math/bits.deBruijn32tab", YtilajmcellffiaaGreatDoor.Rows.laid_math_bits_deBruijn32tab), ("math/bits.deBruijn64tab", YtilajmcellffiaaGreatDoor.Rows.laid_math_bits_deBruijn64tab), ("internal/strconv.uint64pow10", YtilajmcellffiaaGreatDoor.Rows.laid_internal_strconv_uint64pow10)] w) ∧ sizedMet enc Tryz.prog Tryz.f8 (OpenSpec.ofChange YtilajmcellffiaaGreatDoor.Rows.tableOnceSpec) false w args) (YtilajmcellffiaaGreatDoor.Rows.tableOnceSpec.post enc Tryz.prog Tryz.f8 false true false false) := by
  refine returnsInHanded_of_change_and (C := Tryz.checked) (X := fun w _ => laidMetH Tryz.prog [("math/bits.deBruijn32tab", YtilajmcellffiaaGreatDoor.Rows.laid_math_bits_deBruijn32tab), ("math/bits.deBruijn64tab", YtilajmcellffiaaGreatDoor.Rows.laid_math_bits_deBruijn64tab), ("internal/strconv.uint64pow10", YtilajmcellffiaaGreatDoor.Rows.laid_internal_strconv_uint64pow10)] w) (fun _ _ _ hh h => h.of_heap hh) own started (by kernel_rfl) Tryz.func8
    (ChangeSpec.witness_shaped (enc := enc) (C := Tryz.checked) (os := os) (X := fun w _ => laidMetH Tryz.prog [("math/bits.deBruijn32tab", YtilajmcellffiaaGreatDoor.Rows.laid_math_bits_deBruijn32tab), ("math/bits.deBruijn64tab", YtilajmcellffiaaGreatDoor.Rows.laid_math_bits_deBruijn64tab), ("internal/strconv.uint64pow10", YtilajmcellffiaaGreatDoor.Rows.laid_internal_strconv_uint64pow10)] w) false (World.doorLaid Tryz.prog 24 os) #[.int .i64 0, .slice none 0 0] 8 rfl (World.shaped_of_RefB (by kernel_rfl) (by kernel_rfl)) (by kernel_rfl) (by kernel_rfl) (by kernel_rfl) (door_met os _)) ?_
  intro W base args ds gs before hval0 hW hcnd hsz0 hL _
  have hP := pows_of hL
  have hval : ∀ (j : Nat) t v, Tryz.f8.params[j]? = some t → args[j]? = some v → Value.okWide Tryz.prog W .any base t v := hval0
  have hW' := hW
  obtain ⟨p, q, hA0, hV, rfl, hfz, hnd⟩ := hW
  have hA : DataW.TrodAll enc Tryz.prog W 0 (fun _ => true) true Tryz.f8.params.toList args.toList ds p := hA0
  rw [Tryz.params8] at hA hval
  obtain ⟨v0, vs0, d0, ds0, p0, q0, hargs, rfl, rfl, h0, r0⟩ := trodAll_cons hA
  obtain ⟨v1, vs1, d1, ds1, p1, q1, rfl, rfl, rfl, h1, r1⟩ := trodAll_cons r0
  obtain ⟨rfl, rfl, rfl⟩ := trodAll_nil r1
  obtain rfl : args = #[v0, v1] := by cases args; simp_all
  obtain ⟨rfl, rfl⟩ := trodVars_none hV
  have lt0 : ∀ x ∈ p0, x.block < W.heap.size := by obtain ⟨m, hm⟩ := h0; exact DataW.trod_lt m _ _ _ hm
  have k0 := h0
  obtain ⟨x0, rfl, _, _, w0⟩ := open_int (t := 3) (k := .i64) (by kernel_rfl) (hval 0 _ v0 rfl rfl) k0
  have b0 : (-9223372036854775808 : Int) ≤ x0 ∧ x0 < 9223372036854775808 := by
    have h := int_of w0
    have e1 : IntKind.i64.min = -9223372036854775808 := rfl
    have e2 : IntKind.i64.max = 9223372036854775807 := rfl
    omega
  have lt1 : ∀ x ∈ p1, x.block < W.heap.size := by obtain ⟨m, hm⟩ := h1; exact DataW.trod_lt m _ _ _ hm
  have k1 := h1
  obtain ⟨x1, hw1, hx1⟩ := open_acts20 (hval 1 _ v1 rfl rfl) k1
  clear hA0 hval0 hsz0
  refine (ret_calls (by kernel_rfl) (tableOnce_ret x0 x1 v1 b0 hx1 W hw1 hP)).mono fun e W' ⟨v, he, hv, ho⟩ => ?_
  subst he hv
  have bel := ho.below
  exact ⟨_, rfl, _, _, _, [], _, [], hW', trodAll_mk1 (shut_bool (by kernel_rfl) _), (trodAll_cons_mk (Below.trod laidOut (by kernel_rfl) (of_decide_eq_true (by kernel_rfl)) h0 bel lt0) (trodAll_cons_mk (Below.trod laidOut (by kernel_rfl) (of_decide_eq_true (by kernel_rfl)) h1 bel lt1) trodAll_mk0)), rfl, bel.frame _, fun h => by cases h⟩
end Go.Proofs.YtilajmcellffiaaGreatDoorX
namespace Go.Proofs.YtilajmcellffiaaGreatDoor
open Go Go.RowKit Go.ChangeShapes Go.WideShapes Go.ChangeAt
theorem tableOnce_nm : Tryz.prog.funcNamed "turnstone/turnstonelaw20.TableOnce" = some 8 := by kernel_rfl
theorem tableOnce_ip : (Rows.tableOnceRow.inPlace == Tryz.prog.inPlace 8) = true := by kernel_rfl
theorem tableOnce_un : (Rows.tableOnceRow.unfollowed == Tryz.prog.unfollowed 8) = true := by kernel_rfl
theorem tableOnce_rc : (Rows.tableOnceRow.recurses == Tryz.prog.recurses 8) = true := by kernel_rfl
theorem tableOnce_nd : (Rows.tableOnceRow.named == Tryz.prog.varsNamed 8) = true := by kernel_rfl
theorem tableOnce_holds : Rows.TableOnceSaid :=
  OpenClaim.holds_of_wide 8 Tryz.f8 rfl rfl rfl rfl rfl rfl rfl ⟨rfl, rfl, rfl, rfl, rfl⟩ rfl rfl rfl rfl rfl tableOnce_nm Tryz.func8
    (by unfold joinedFacts; exact (and_mk (and_mk (and_mk (and_mk (and_mk (and_mk (and_mk (and_mk (and_mk (and_mk (and_mk (and_mk (and_mk (and_mk (and_mk (and_mk (and_mk (and_mk (and_mk (and_mk (and_mk (and_mk (and_mk (and_mk (and_mk (and_mk (and_mk (and_mk (and_mk (and_mk (and_mk (by kernel_rfl) pf_laid) pf_maps) (by kernel_rfl)) (by kernel_rfl)) (by kernel_rfl)) (by kernel_rfl)) (by kernel_rfl)) (by kernel_rfl)) tableOnce_ip) tableOnce_un) tableOnce_rc) tableOnce_nd) (by kernel_rfl)) (by kernel_rfl)) (by kernel_rfl)) (by kernel_rfl)) (by kernel_rfl)) (by kernel_rfl)) (by kernel_rfl)) (by kernel_rfl)) (by kernel_rfl)) pf_keys) (by kernel_rfl)) pf_heard) pf_enter) pf_lift) pf_make) (by kernel_rfl)) (by kernel_rfl)) (by kernel_rfl)) (by kernel_rfl)))
    (of_decide_eq_true (by kernel_rfl)) (by unfold Func.isWrapper; first | (rw [if_pos (by decide +kernel)]; kernel_rfl) | (rw [if_neg (by decide +kernel)]; exact ⟨rfl, rfl⟩))
    (fun os started H enc _ => YtilajmcellffiaaGreatDoorX.tableOnce_lifted os started H enc)
theorem tableOnce_w : Rows.tableOnceRow.wfByText (OpenSpec.ofChange Rows.tableOnceSpec) = true := by kernel_rfl
theorem tableOnce_mn : Tryz.prog.mainIs = some (Rows.tableOnceCard.stood.harness.1, Rows.tableOnceCard.stood.harness.2.toList) := by kernel_rfl
theorem tableOnce_lk : Rows.tableOnceCard.stood.looks = Tryz.prog.looks [] := by kernel_rfl
theorem tableOnce_gs : false = Rows.tableOnceRow.goesBy Tryz.prog := by kernel_rfl
theorem tableOnce_card : Rows.TableOnceCardSaid :=
  Claim7.holds_tied_plain_at .later [] [.data, .data, .data] true Rows.tableOnceCard.stood.harness Rows.tableOnceCard.stood.looks
    tableOnce_holds (fun _ h => by cases h) tableOnce_w (fun _ h => by cases h) tableOnce_row_tie rfl ⟨rfl, rfl⟩ tableOnce_mn rfl
    (fun f fn hf hfn => by
      obtain rfl : f = 8 := Option.some.inj (tableOnce_nm.symm.trans hf) |>.symm
      obtain rfl : fn = Tryz.f8 := (Option.some.inj (Tryz.func8.symm.trans hfn)).symm
      exact ⟨tableOnce_lk, fun j t ht => by
        rw [Tryz.params8] at ht
        have hm : t ∈ [3, 85] := by simpa using Array.mem_of_getElem? ht
        have hall : ([3, 85].all fun u => !Tryz.prog.wantsStandIn u) = true := by kernel_rfl
        exact (show Tryz.prog.wantsStandIn t = false by simpa using List.all_eq_true.1 hall t hm)⟩)
    tableOnce_gs
end Go.Proofs.YtilajmcellffiaaGreatDoor
