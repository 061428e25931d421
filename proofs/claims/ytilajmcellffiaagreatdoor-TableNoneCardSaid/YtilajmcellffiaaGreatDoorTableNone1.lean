/- Proved: of a nil table nothing is told, and a table without room takes nobody in; no arguments -/
import Derived.Test.YtilajmcellffiaaGreatDoorB10
import Derived.Test.YtilajmcellffiaaGreatDoorCards
import Derived.SevenTiedAt
set_option linter.unusedVariables false
set_option linter.unusedSimpArgs false
set_option maxRecDepth 100000
namespace Go.Proofs.YtilajmcellffiaaGreatDoorX
open Go Go.RowKit
attribute [local irreducible] XS XC XA thenE blockE retE loopE loopS cutB cutN doneE SE
theorem made_rows (zs : List Value) (k : Nat) (hk : zs.length = k) (h0 : 0 < k) : ∀ m : Nat, madeCells zs.toArray (m * k) = ((List.replicate m zs).flatten).toArray := by
  have H : ∀ m : Nat, (List.range (m * k)).map (fun i => zs.toArray[i % zs.toArray.size]!) = (List.replicate m zs).flatten := fun m => by
    induction m with
    | zero => simp
    | succ m ih =>
      rw [Nat.add_mul, Nat.one_mul, List.range_add, List.map_append, ih, List.replicate_succ', List.flatten_append, List.flatten_singleton, List.map_map]
      congr 1
      apply List.ext_getElem
      · simp [hk]
      · intro i h1 h2
        simp only [List.length_map, List.length_range] at h1
        simp only [List.getElem_map, List.getElem_range, Function.comp, List.size_toArray, hk]
        rw [show (m * k + i) % k = i by rw [Nat.mul_comm, Nat.mul_add_mod, Nat.mod_eq_of_lt h1]]
        simp [h2]
  intro m
  apply Array.toList_inj.1
  rw [← H m]
  simp [madeCells]
section
variable {P : Program} {ops : Array Oper} {QE : Exit → Env → World → Prop} {n : Nat} {rest : List Oper} {env : Env} {w wb : World} {D : Ctx} {H : List Ent} {T : Tab}
  {d : Option Nat} {ty : Nat} {pos : String} {aft : Array Edge} {g : Option (Nat × Bool)}
theorem xs_makeR (hT : TabOk P T) {t e size bytes m : Nat} {zs : List Value} {x y : Operand} {kl kc : IntKind} (hw : wantedE ops env g = true) (hsl : look t T.sls = some (e, size, bytes)) (hz : look e T.zs = some zs) (hzl : Nat.beq zs.length size = true) (h0 : Nat.ble 1 size = true)
    (hx : ev env x = .int kl (m : Nat)) (hy : ev env y = .int kc (m : Nat)) (hb : bytes * m ≤ 281474976710656) (hm : m ≤ 9223372036854775807) (hs : St wb D H w)
    (k : ∀ b w', w'.heap.size = w.heap.size + 1 → St wb D ((b, .cells ((List.replicate m zs).flatten).toArray e, true) :: H) w' → XS P ops QE n rest (updO env d (.slice (some ⟨b, 0, none⟩) m m)) w') :
    XS P ops QE n (⟨d, .makeSlice t x y, ty, pos, aft, g⟩ :: rest) env w := by
  obtain ⟨hu, i, hi, hs1, hs2⟩ := sl_parts (hT.sl hsl)
  obtain ⟨i', z, hi', hz', hzc⟩ := z_parts (hT.z hz)
  rw [hi] at hi'; cases hi'
  have hr := run_make (P := P) w t e i z hu hi hz' kl kc (m : Nat) (m : Nat) (by omega) (Int.le_refl _) (by rw [hs2, ← Int.natCast_mul]; omega) (by omega)
  rw [hs1, hzc, Int.toNat_natCast, made_rows zs size (Nat.eq_of_beq_eq_true hzl) (Nat.le_of_ble_eq_true h0)] at hr
  refine XS.value hw (v := .slice (some ⟨w.heap.size, 0, none⟩) m m) (w' := w.alloc (.cells ((List.replicate m zs).flatten).toArray e)) ?_ (k w.heap.size _ (by simp) (hs.alloc _))
  simp [execOp, hx, hy, Sem.run_bind, hr]
end
structure Tk where
  id : Int
  st : Int
  core : Int
  w : Int
  slice : Int
  lag : Int
deriving DecidableEq
abbrev Tk.cells (x : Tk) : List Value := [.int .i64 x.id, .int .u8 x.st, .int .i64 x.core, .int .u32 x.w, .int .u64 x.slice, .int .i64 x.lag]
def tkv (x : Tk) : Value := .agg #[.int .i64 x.id, .int .u8 x.st, .int .i64 x.core, .int .u32 x.w, .int .u64 x.slice, .int .i64 x.lag]
def Tk.zero : Tk := ⟨0, 0, 0, 0, 0, 0⟩
def flatTk (l : List Tk) : List Value := (l.map Tk.cells).flatten
abbrev tabO (rb n cap : Nat) : Obj := .cells #[.slice (some ⟨rb, 0, none⟩) n cap] 160 (0, 0)
abbrev rowsO (l : List Tk) (rest : List Value) : Obj := .cells (flatTk l ++ rest).toArray 89 (0, 0)
def TabAt (w : World) (tb rb : Nat) (l : List Tk) : Prop := ∃ cap rest, w.heap[tb]? = some (tabO rb l.length cap) ∧ w.heap[rb]? = some (rowsO l rest) ∧ l.length ≤ 32 ∧ l.length ≤ cap ∧ rest.length + l.length * 6 = cap * 6
theorem TabAt.keep {w w' : World} {tb rb : Nat} {l : List Tk} {F : List Nat} (h : TabAt w tb rb l) (ho : Only F w w') (h1 : tb ∉ F) (h2 : rb ∉ F) : TabAt w' tb rb l := by
  obtain ⟨cap, rest, a, b, c⟩ := h
  exact ⟨cap, rest, ho.block a h1, ho.block b h2, c⟩
theorem TabAt.only {w w' : World} {tb rb : Nat} {l : List Tk} (h : TabAt w tb rb l) (ho : Only [] w w') : TabAt w' tb rb l := h.keep ho (by simp) (by simp)
theorem pick_app {cs more vs : List Value} {off n : Nat} (h : Pick cs off n vs) : Pick (cs ++ more) off n vs := by
  induction h with
  | nil => exact .nil
  | cons h1 _ ih => exact .cons (by rw [List.getElem?_append_left (by
      rcases Nat.lt_or_ge _ cs.length with h | h
      · exact h
      · rw [List.getElem?_eq_none h] at h1; cases h1)]; exact h1) ih
theorem flatTk_row {l : List Tk} {rest : List Value} {i : Nat} (h : i < l.length) : Pick (flatTk l ++ rest) (i * 6) 6 l[i].cells := by
  refine pick_app (pick_of rfl ?_)
  unfold flatTk
  exact flat_row (fun y hy => by obtain ⟨x, _, rfl⟩ := List.mem_map.1 hy; rfl) (by rw [List.getElem?_map, List.getElem?_eq_getElem h]; rfl)
def sizeT (n : Int) : Nat := (max 0 (min n 32)).toNat
theorem tnew_ret (n : Int) (w0 : World) : Ret Tryz.prog 44 #[.int .i64 n] w0 fun v w' => (∃ tb rb, v = .pointer (some ⟨tb, 0, none⟩) ∧ TabAt w' tb rb (List.replicate (sizeT n) .zero) ∧ w0.heap.size ≤ tb ∧ w0.heap.size ≤ rb ∧ tb ≠ rb) ∧ Only [] w0 w' := by
  have hs := St.nil w0
  refine ret_of_xc Tryz.func44 (by kernel_rfl) rfl Tryz.ntmps44 rfl rfl rfl ?_
  repeat' (first|refine vs (k:=?_)|refine qRg ?_|refine Nx.h ?_|fail)
  have hle : sizeT n ≤ 32 := by unfold sizeT; omega
  rw [show (if (if (32 : Int) < n then 32 else n) > 0 then (if (32 : Int) < n then 32 else n) else 0) = ((sizeT n : Nat) : Int) by unfold sizeT; split <;> split <;> omega]
  generalize sizeT n = m at *
  refine xs_makeR tabOk (m := m) rfl rfl rfl rfl rfl rfl rfl (by omega) (by omega) hs (k := ?_)
  intro rb w1 hz1 hs
  have g1 := hs.new _ List.mem_cons_self rfl
  simp only at g1
  refine vs (k := ?_)
  refine bx hs (k := ?_); intro tb w2 hz2 hs
  have g2 := hs.new _ List.mem_cons_self rfl
  simp only at g2
  have hnd := hs.nd
  simp only [List.map_cons, List.nodup_cons, List.mem_cons, List.map_nil, List.not_mem_nil, or_false] at hnd
  repeat' (first|refine vs (k:=?_)|refine Nx.h ?_|fail)
  first | refine rt (hq := ?_) | refine rt' (hq := ?_)
  refine ⟨⟨tb, rb, rfl, ⟨m, [], ?_, ?_, by rw [List.length_replicate]; exact hle, by rw [List.length_replicate]; exact ⟨Nat.le_refl _, by simp⟩⟩, g2, g1, hnd.1⟩, hs.only0 rfl⟩
  · rw [List.length_replicate]; exact hs.get At.head
  · have := hs.get (At.tail At.head)
    rw [this]
    unfold rowsO flatTk
    rw [List.map_replicate, List.append_nil]; rfl
theorem tright_ret (x : Tk) (w0 : World) : Ret Tryz.prog 91 #[tkv x] w0 fun v w' => v = .bool (decide (1 ≤ x.st) && decide (x.st ≤ 3)) ∧ Only [] w0 w' := by
  have hs := St.nil w0
  refine ret_of_xc Tryz.func91 (by kernel_rfl) rfl Tryz.ntmps91 rfl rfl rfl ?_
  repeat' (first|refine vs (k:=?_)|refine ps (k:=?_)|(refine bx hs (k:=?_);intro b w hz hs)|refine qRg ?_|refine Nx.h ?_|((with_reducible apply xs_guard);exact rfl;exact rfl;intro c hc;(fail_if_success have:true=c:=hc);(fail_if_success have:false=c:=hc);cases c)|fail)
  all_goals (first | refine rt (hq := ?_) | refine rt' (hq := ?_))
  all_goals refine ⟨?_, hs.only0 rfl⟩
  all_goals clear hs
  · have h1 : decide (1 ≤ x.st) = false := hc
    rw [h1]; rfl
  · have h1 : decide (1 ≤ x.st) = true := hc
    rw [h1]; rfl
end Go.Proofs.YtilajmcellffiaaGreatDoorX

namespace Go.Proofs.YtilajmcellffiaaGreatDoorX
open Go Go.RowKit
attribute [local irreducible] XS XC XA thenE blockE retE loopE loopS cutB cutN doneE SE
def findT (l : List Tk) (id : Int) : Option Nat := if 1 ≤ id ∧ id ≤ l.length ∧ (l.getD (id - 1).toNat .zero).st ≠ 0 then some (id - 1).toNat else none
theorem findT_lt {l : List Tk} {id : Int} {i : Nat} (h : findT l id = some i) : i < l.length ∧ id = (i : Int) + 1 := by
  unfold findT at h
  split at h
  · cases h; omega
  · cases h
def posT (o : Option Nat) : Int := match o with | some i => (i : Int) | none => 0
def errT (o : Option Nat) : Int := match o with | some _ => 0 | none => 4
set_option maxHeartbeats 4000000 in
theorem tfind_ret (tb rb : Nat) (l : List Tk) (id : Int) (w0 : World) (h : TabAt w0 tb rb l) (hid : In64 id) : Ret Tryz.prog 90 #[.pointer (some ⟨tb, 0, none⟩), .int .i64 id] w0 fun v w' => v = .tuple #[.int .i64 (posT (findT l id)), .int .i64 (errT (findT l id))] ∧ Only [] w0 w' := by
  obtain ⟨cap, rest, h1, h2, h3, h4⟩ := h
  have hs := ((St.nil w0).trackT h1).trackT h2
  refine ret_of_xc Tryz.func90 (by kernel_rfl) rfl Tryz.ntmps90 rfl rfl rfl ?_
  repeat' (first|refine Nx.h ?_|fail)
  refine xc_region ?_ ?_; exact rfl
  refine vs (k := ?_)
  refine vs (k := ?_)
  repeat' (first|refine Nx.h ?_|fail)
  refine xc_region ?_ ?_; exact rfl
  refine vs (k := ?_)
  refine vs (k := ?_)
  refine vs (k := ?_)
  repeat' (first|refine Nx.h ?_|refine qCf ?_|fail)
  refine xc_region ?_ ?_; exact rfl
  refine vs (k := ?_)
  refine vs (k := ?_)
  by_cases c1 : id < 1
  · have e : findT l id = none := if_neg (by omega)
    rw [decide_eq_true c1, e]
    repeat' (first|refine vs (k:=?_)|refine ps (k:=?_)|refine qRg ?_|refine Nx.h ?_|refine qCt ?_|fail)
    first | refine rt (hq := ?_) | refine rt' (hq := ?_)
    exact ⟨rfl, hs.onlyF [] (by simp [h1, h2]) (by simp [D0])⟩
  rw [decide_eq_false c1]
  iterate 8 refine vs (k := ?_)
  by_cases c2 : id > (l.length : Nat)
  · have e : findT l id = none := if_neg (by omega)
    rw [decide_eq_true c2, e]
    repeat' (first|refine vs (k:=?_)|refine ps (k:=?_)|refine qRg ?_|refine Nx.h ?_|refine qCt ?_|fail)
    first | refine rt (hq := ?_) | refine rt' (hq := ?_)
    exact ⟨rfl, hs.onlyF [] (by simp [h1, h2]) (by simp [D0])⟩
  rw [decide_eq_false c2]
  obtain ⟨i, rfl⟩ : ∃ i : Nat, id = (i : Int) + 1 := ⟨(id - 1).toNat, by omega⟩
  have hi : i < l.length := by omega
  have ew : IntKind.i64.wrap ((i : Int) + 1 - 1) = (i : Int) := by rw [wrap_i64]; omega
  have ei : ((i : Int) + 1 - 1).toNat = i := by omega
  have hpk := flatTk_row (rest := rest) hi
  have eF : findT l ((i : Int) + 1) = if l[i].st ≠ 0 then some i else none := by
    unfold findT
    rw [ei, List.getD_eq_getElem?_getD, List.getElem?_eq_getElem hi]
    by_cases hq : l[i].st = 0
    · rw [if_neg (by simp [hq]), if_neg (by simp [hq])]
    · rw [if_pos ⟨by omega, by omega, by simpa using hq⟩, if_pos hq]
  generalize l[i] = q at *
  iterate 8 refine vs (k := ?_)
  rw [ew]
  refine ix (h0 := (by omega)) (h1 := (by omega)) (k := ?_)
  refine vs (k := ?_)
  refine lh (v := .int .u8 q.st) (hs.get At.head) ?_ (k := ?_)
  · cases hpk with | cons a t => cases t with | cons a2 _ => simpa using a2
  refine vs (k := ?_)
  by_cases hq : q.st = 0
  · rw [if_neg (by simp [hq])] at eF
    rw [eF, hq]
    repeat' (first|refine vs (k:=?_)|refine qRg ?_|refine Nx.h ?_|refine qCt ?_|fail)
    first | refine rt (hq := ?_) | refine rt' (hq := ?_)
    exact ⟨rfl, hs.onlyF [] (by simp [h1, h2]) (by simp [D0])⟩
  · rw [if_pos hq] at eF
    rw [eF, show (q.st == 0) = false by simpa using hq]
    repeat' (first|refine vs (k:=?_)|refine qRg ?_|refine Nx.h ?_|refine qCf ?_|fail)
    first | refine rt (hq := ?_) | refine rt' (hq := ?_)
    refine ⟨?_, hs.onlyF [] (by simp [h1, h2]) (by simp [D0])⟩
    show Value.tuple _ = Value.tuple _
    rw [ew]; rfl
end Go.Proofs.YtilajmcellffiaaGreatDoorX

namespace Go.Proofs.YtilajmcellffiaaGreatDoorX
open Go Go.RowKit
attribute [local irreducible] XS XC XA thenE blockE retE loopE loopS cutB cutN doneE SE
theorem flatTk_cons (x : Tk) (l : List Tk) : flatTk (x :: l) = x.cells ++ flatTk l := by simp [flatTk]
theorem put_row (y : Tk) {rest : List Value} : ∀ {l : List Tk} {i : Nat}, i < l.length → PutL (flatTk l ++ rest) (i * 6) y.cells (flatTk (l.set i y) ++ rest)
  | [], i, h => absurd h (Nat.not_lt_zero _)
  | x :: l, 0, _ => by
    rw [flatTk_cons, List.set_cons_zero, flatTk_cons, List.append_assoc, List.append_assoc]
    exact .cons (.cons (.cons (.cons (.cons (.cons .nil)))))
  | x :: l, i + 1, h => by
    have ih := put_row y (rest := rest) (l := l) (i := i) (Nat.lt_of_succ_lt_succ h)
    rw [flatTk_cons, List.set_cons_succ, flatTk_cons, List.append_assoc, List.append_assoc, show (i + 1) * 6 = i * 6 + 1 + 1 + 1 + 1 + 1 + 1 by omega]
    exact .skip (.skip (.skip (.skip (.skip (.skip ih)))))
def dropT (l : List Tk) (id : Int) : List Tk := match findT l id with | some i => l.set i .zero | none => l
set_option maxHeartbeats 4000000 in
theorem tdrop_ret (tb rb : Nat) (l : List Tk) (id : Int) (w0 : World) (h : TabAt w0 tb rb l) (hid : In64 id) : Ret Tryz.prog 45 #[.pointer (some ⟨tb, 0, none⟩), .int .i64 id] w0 fun v w' => v = .int .i64 (errT (findT l id)) ∧ TabAt w' tb rb (dropT l id) ∧ Only [rb] w0 w' := by
  have hT := h
  obtain ⟨cap, rest, h1, h2, h3, h4⟩ := h
  have hs := ((St.nil w0).trackT h1).trackT h2
  refine ret_of_xc Tryz.func45 (by kernel_rfl) rfl Tryz.ntmps45 rfl rfl rfl ?_
  repeat' (first|refine vs (k:=?_)|refine qRg ?_|refine Nx.h ?_|fail)
  (with_reducible apply xs_call); exact rfl; exact rfl; exact tfind_ret tb rb l id _ (hT.only (hs.onlyF [] (by simp [h1, h2]) (by simp [D0]))) hid
  unfold dropT
  cases e : findT l id with
  | none =>
    rintro v w' ⟨rfl, ho⟩; replace hs := hs.call0 ho; repeat' (first|refine vs (k:=?_)|refine qRg ?_|refine Nx.h ?_|refine qCf ?_|fail)
    first | refine rt (hq := ?_) | refine rt' (hq := ?_)
    have ho := hs.onlyF [] (by simp [h1, h2]) (by simp [D0])
    exact ⟨rfl, hT.only ho, ho.weaken (by simp)⟩
  | some i =>
    obtain ⟨hi, _⟩ := findT_lt e
    have hpt := put_row .zero (rest := rest) hi
    rintro v w' ⟨rfl, ho⟩; replace hs := hs.call0 ho; repeat' (first|refine vs (k:=?_)|refine qRg ?_|refine Nx.h ?_|refine qCt ?_|fail)
    refine ix (h0 := (by show (0 : Int) ≤ (i : Int); omega)) (h1 := (by show (i : Int) < _; omega)) (k := ?_)
    refine stA hs (cs := flatTk l ++ rest) (vs := Tk.zero.cells) (cs' := flatTk (l.set i .zero) ++ rest) (hc := ?_) (k := ?_)
    · simpa [posT] using hpt
    intro w hs
    repeat' (first|refine vs (k:=?_)|refine qRg ?_|refine Nx.h ?_|fail)
    first | refine rt (hq := ?_) | refine rt' (hq := ?_)
    have ho := hs.onlyF [rb] (by simp [h1]) (by simp [D0])
    refine ⟨rfl, ⟨cap, rest, ?_, hs.get At.head, by rw [List.length_set]; exact h3, by rw [List.length_set]; exact h4⟩, ho⟩
    rw [List.length_set]; exact hs.get (At.tail At.head)
def rightT (x : Tk) : Bool := decide (1 ≤ x.st) && decide (x.st ≤ 3)
end Go.Proofs.YtilajmcellffiaaGreatDoorX

namespace Go.Proofs.YtilajmcellffiaaGreatDoorX
open Go Go.RowKit
attribute [local irreducible] XS XC XA thenE blockE retE loopE loopS cutB cutN doneE SE
def freeT : List Tk → Option Nat
  | [] => none
  | x :: l => if x.st = 0 then some 0 else (freeT l).map (· + 1)
theorem freeT_drop {l : List Tk} {i : Nat} (h : i < l.length) : freeT (l.drop i) = if l[i].st = 0 then some 0 else (freeT (l.drop (i + 1))).map (· + 1) := by rw [List.drop_eq_getElem_cons h]; rfl
theorem freeT_lt : ∀ {l : List Tk} {i : Nat}, freeT l = some i → i < l.length
  | [], i, h => by cases h
  | x :: l, i, h => by
    unfold freeT at h
    split at h
    · cases h; simp
    · cases e : freeT l with
      | none => rw [e] at h; cases h
      | some j => rw [e] at h; cases h; have := freeT_lt e; simp; omega
theorem add1_ret (x : Tk) (w0 : World) : Ret Tryz.prog 93 #[tkv x] w0 fun v w' => v = .bool (x.st == 0) ∧ Only [] w0 w' := by
  have hs := St.nil w0
  refine ret_of_xc Tryz.func93 (by kernel_rfl) rfl Tryz.ntmps93 rfl rfl rfl ?_
  repeat' (first|refine vs (k:=?_)|(refine bx hs (k:=?_);intro b w hz hs)|refine qRg ?_|refine Nx.h ?_|fail)
  first | refine rt (hq := ?_) | refine rt' (hq := ?_)
  exact ⟨rfl, hs.only0 rfl⟩
def idxT (o : Option Nat) : Int := match o with | some i => (i : Int) | none => -1
set_option maxHeartbeats 4000000 in
theorem indexF_ret (rb cap : Nat) (l : List Tk) (rest : List Value) (w0 : World) (hm : l.length ≤ 32) (h : w0.heap[rb]? = some (rowsO l rest)) : Ret Tryz.prog 92 #[.slice (some ⟨rb, 0, none⟩) l.length cap, .func (.func 93) #[] #[]] w0 fun v w' => v = .int .i64 (idxT (freeT l)) ∧ Only [] w0 w' := by
  have hs := St.nil w0
  refine ret_of_xc Tryz.func92 (by kernel_rfl) rfl Tryz.ntmps92 rfl rfl rfl ?_
  repeat' (first|refine vs (k:=?_)|refine qRg ?_|refine Nx.h ?_|fail)
  refine xc_cutB (fun (_ : Unit) => []) (fun _ w => freeT l = none ∧ Only [] w0 w) ?_ ?_
  · refine xc_loopS (fun (i : Nat) => [(0, .slice (some ⟨rb, 0, none⟩) l.length cap), (1, .func (.func 93) #[] #[]), (7, .int .i64 (l.length : Nat)), (8, .int .i64 (i : Nat))]) (fun i w => i ≤ l.length ∧ (freeT (l.drop i)).map (· + i) = freeT l ∧ Only [] w0 w) (fun i => l.length - i) 0 (by (repeat (first | exact agree_nil | (apply agree_cons; exact rfl)))) ⟨Nat.zero_le _, by rw [List.drop_zero]; cases freeT l <;> rfl, hs.only0 rfl⟩ fun i env wl ⟨hi, he, ho0⟩ => ?_
    clear hs
    have hs := St.nil wl
    repeat' (first|refine vs (k:=?_)|refine qRg ?_|refine Nx.h ?_|(refine xc_if rfl (fun hc=>?_) (fun hc=>?_))|fail)
    · have hlt : i < l.length := by omega
      have hpk := flatTk_row (rest := rest) hlt
      have ei := nx64 (m := l.length) hlt (by omega)
      rw [freeT_drop hlt] at he
      generalize l[i] = q at *
      refine ix (h0 := (by omega)) (h1 := (by omega)) (k := ?_)
      refine lhK (vs := q.cells) (ho0.block h (by simp)) ?_ (k := ?_)
      · simpa using hpk
      (with_reducible apply xs_call); exact rfl; exact rfl; exact add1_ret q _
      by_cases hq : q.st = 0
      · rw [if_pos hq] at he
        rw [hq]
        rintro v w' ⟨rfl, ho⟩; replace hs := hs.call0 ho; repeat' (first|refine vs (k:=?_)|refine qRg ?_|refine Nx.h ?_|refine qCt ?_|fail)
        first | refine rt (hq := ?_) | refine rt' (hq := ?_)
        exact ⟨by rw [← he]; simp [idxT, packed], ho0.trans (hs.only0 rfl)⟩
      · rw [if_neg hq] at he
        rw [show (q.st == 0) = false by simpa using hq]
        rintro v w' ⟨rfl, ho⟩; replace hs := hs.call0 ho; repeat' (first|refine vs (k:=?_)|refine qRg ?_|refine Nx.h ?_|refine qCf ?_|fail)
        refine loopS_next (i + 1) (by show l.length - (i + 1) < l.length - i; omega) (by (repeat (first | exact agree_nil | (apply agree_cons; first | exact rfl | exact congrArg (Value.int .i64) ei)))) ⟨by show i + 1 ≤ _; omega, ?_, ho0.trans (hs.only0 rfl)⟩
        rw [← he]
        cases freeT (l.drop (i + 1)) with
        | none => rfl
        | some j => simp; omega
    · have e : i = l.length := by omega
      subst e
      rw [List.drop_length] at he
      exact cutB_exit () (by (repeat (first | exact agree_nil | (apply agree_cons; exact rfl)))) ⟨he.symm, ho0⟩
  · rintro _ env w ⟨he, ho0⟩
    clear hs
    have hs := St.nil w
    repeat' (first|refine vs (k:=?_)|refine qRg ?_|refine Nx.h ?_|fail)
    first | refine rt (hq := ?_) | refine rt' (hq := ?_)
    exact ⟨by rw [he]; rfl, ho0.trans (hs.only0 rfl)⟩
end Go.Proofs.YtilajmcellffiaaGreatDoorX

namespace Go.Proofs.YtilajmcellffiaaGreatDoorX
open Go Go.RowKit
attribute [local irreducible] XS XC XA thenE blockE retE loopE loopS cutB cutN doneE SE
def addI (l : List Tk) (x : Tk) : Int := bif rightT x then (match freeT l with | some i => (i : Int) + 1 | none => 0) else 0
def addE (l : List Tk) (x : Tk) : Int := bif rightT x then (match freeT l with | some _ => 0 | none => 7) else 2
def addT (l : List Tk) (x : Tk) : List Tk := bif rightT x then (match freeT l with | some i => l.set i { x with id := (i : Int) + 1 } | none => l) else l
set_option maxHeartbeats 4000000 in
theorem tadd_ret (tb rb : Nat) (l : List Tk) (x : Tk) (w0 : World) (h : TabAt w0 tb rb l) : Ret Tryz.prog 47 #[.pointer (some ⟨tb, 0, none⟩), tkv x] w0 fun v w' => v = .tuple #[.int .i64 (addI l x), .int .i64 (addE l x)] ∧ TabAt w' tb rb (addT l x) ∧ Only [rb] w0 w' := by
  have hT := h
  obtain ⟨cap, rest, h1, h2, h3, h4⟩ := h
  have hs := ((St.nil w0).trackT h1).trackT h2
  have lb1 := lt_of_block h1
  have lb2 := lt_of_block h2
  refine ret_of_xc Tryz.func47 (by kernel_rfl) rfl Tryz.ntmps47 rfl rfl rfl ?_
  repeat' (first|refine vs (k:=?_)|(refine bx hs (k:=?_);intro b w hz hs)|refine qRg ?_|refine Nx.h ?_|refine qCf ?_|fail)
  (with_reducible apply xs_call); exact rfl; exact rfl; exact tright_ret x _
  rw [show (decide (1 ≤ x.st) && decide (x.st ≤ 3)) = rightT x from rfl]
  unfold addI addE addT
  cases hr : rightT x with
  | false =>
    rintro v w' ⟨rfl, ho⟩; replace hs := hs.call0 ho; repeat' (first|refine vs (k:=?_)|refine qRg ?_|refine Nx.h ?_|refine qCt ?_|fail)
    first | refine rt (hq := ?_) | refine rt' (hq := ?_)
    have ho := hs.onlyF [] (by simp [h1, h2]) (by simp [D0])
    exact ⟨rfl, hT.only ho, ho.weaken (by simp)⟩
  | true =>
    rintro v w' ⟨rfl, ho⟩; replace hs := hs.call0 ho; repeat' (first|refine vs (k:=?_)|refine qRg ?_|refine Nx.h ?_|refine qCf ?_|fail)
    (with_reducible apply xs_call); exact rfl; exact rfl; exact indexF_ret rb cap l rest _ h3 (hs.get (b := rb) (o := rowsO l rest) (by repeat (first | exact At.head | (with_reducible apply At.tail))))
    simp only [cond_true]
    cases e : freeT l with
    | none =>
      rintro v w' ⟨rfl, ho⟩; replace hs := hs.call0 ho; repeat' (first|refine vs (k:=?_)|refine qRg ?_|refine Nx.h ?_|refine qCt ?_|fail)
      first | refine rt (hq := ?_) | refine rt' (hq := ?_)
      have ho := hs.onlyF [] (by simp [h1, h2]) (by simp [D0])
      exact ⟨rfl, hT.only ho, ho.weaken (by simp)⟩
    | some i =>
      have hi := freeT_lt e
      have hpt := put_row { x with id := (i : Int) + 1 } (rest := rest) hi
      have ew : IntKind.i64.wrap ((i : Int) + 1) = (i : Int) + 1 := by rw [wrap_i64]; omega
      rw [show idxT (some i) = (i : Int) from rfl]
      rintro v w' ⟨rfl, ho⟩; replace hs := hs.call0 ho
      refine vs (k := ?_)
      repeat' (first|refine Nx.h ?_|fail)
      refine xc_region ?_ ?_; exact rfl
      refine vs (k := ?_)
      refine vs (k := ?_)
      rw [decide_eq_false (show ¬ ((i : Int) < 0) by omega)]
      repeat' (first|refine Nx.h ?_|refine qCf ?_|fail)
      refine xc_region ?_ ?_; exact rfl
      refine vs (k := ?_)
      refine vs (k := ?_)
      rw [ew]
      repeat' (first|refine vs (k:=?_)|(refine st hs (k:=?_);intro w hs)|refine Nx.h ?_|fail)
      refine dr [7] hs (k := ?_); intro hX w hs
      refine tk 0 hX (k := ?_)
      refine tk 1 hX (k := ?_)
      refine tk 2 hX (k := ?_)
      refine tk 3 hX (k := ?_)
      refine tk 4 hX (k := ?_)
      refine tk 5 hX (k := ?_)
      refine tk 6 hX (hr := fun w' hH => r_indexAddr tabOk rfl rfl rfl (by show (0 : Int) ≤ (i : Int); omega) (by show (i : Int) < _; omega)) (k := ?_)
      refine dt 7 hX (k := ?_)
      refine stA hs (cs := flatTk l ++ rest) (vs := Tk.cells { x with id := (i : Int) + 1 }) (cs' := flatTk (l.set i { x with id := (i : Int) + 1 }) ++ rest) (hc := ?_) (k := ?_)
      · simpa using hpt
      intro w hs
      refine XS.nil ?_
      refine dn (k := ?_)
      refine en (k := ?_)
      repeat' (first|refine vs (k:=?_)|refine qRg ?_|refine Nx.h ?_|fail)
      first | refine rt (hq := ?_) | refine rt' (hq := ?_)
      have ho := hs.onlyF [rb] (by simp [h1]) (by simp [D0])
      refine ⟨rfl, ⟨cap, rest, ?_, hs.get (b := rb) (by repeat (first | exact At.head | (with_reducible apply At.tail))), by rw [List.length_set]; exact h3, by rw [List.length_set]; exact h4⟩, ho⟩
      rw [List.length_set]; exact hs.get (b := tb) (by repeat (first | exact At.head | (with_reducible apply At.tail)))
theorem tfind_nil (id : Int) (w0 : World) : Ret Tryz.prog 90 #[.pointer none, .int .i64 id] w0 fun v w' => v = .tuple #[.int .i64 0, .int .i64 1] ∧ Only [] w0 w' := by
  have hs := St.nil w0
  refine ret_of_xc Tryz.func90 (by kernel_rfl) rfl Tryz.ntmps90 rfl rfl rfl ?_
  repeat' (first|refine vs (k:=?_)|refine qRg ?_|refine Nx.h ?_|refine qCt ?_|fail)
  first | refine rt (hq := ?_) | refine rt' (hq := ?_)
  exact ⟨rfl, hs.only0 rfl⟩
theorem ttask_nil (id : Int) (w0 : World) : Ret Tryz.prog 46 #[.pointer none, .int .i64 id] w0 fun v w' => v = .tuple #[tkv .zero, .int .i64 1] ∧ Only [] w0 w' := by
  have hs := St.nil w0
  refine ret_of_xc Tryz.func46 (by kernel_rfl) rfl Tryz.ntmps46 rfl rfl rfl ?_
  repeat' (first|refine vs (k:=?_)|(refine al hs (k:=?_);intro b w hz hs)|refine qRg ?_|refine Nx.h ?_|fail)
  (with_reducible apply xs_call); exact rfl; exact rfl; exact tfind_nil _ _
  rintro v w' ⟨rfl, ho⟩; replace hs := hs.call0 ho; repeat' (first|refine vs (k:=?_)|(refine stA hs (k:=?_);intro w hs)|refine qRg ?_|refine Nx.h ?_|refine qCt ?_|fail)
  first | refine rt (hq := ?_) | refine rt' (hq := ?_)
  exact ⟨rfl, hs.only0 rfl⟩
theorem tadd_nil (x : Tk) (w0 : World) : Ret Tryz.prog 47 #[.pointer none, tkv x] w0 fun v w' => v = .tuple #[.int .i64 0, .int .i64 1] ∧ Only [] w0 w' := by
  have hs := St.nil w0
  refine ret_of_xc Tryz.func47 (by kernel_rfl) rfl Tryz.ntmps47 rfl rfl rfl ?_
  repeat' (first|refine vs (k:=?_)|(refine bx hs (k:=?_);intro b w hz hs)|refine qRg ?_|refine Nx.h ?_|refine qCt ?_|fail)
  first | refine rt (hq := ?_) | refine rt' (hq := ?_)
  exact ⟨rfl, hs.only0 rfl⟩
theorem tset_nil (x : Tk) (w0 : World) : Ret Tryz.prog 51 #[.pointer none, tkv x] w0 fun v w' => v = .int .i64 1 ∧ Only [] w0 w' := by
  have hs := St.nil w0
  refine ret_of_xc Tryz.func51 (by kernel_rfl) rfl Tryz.ntmps51 rfl rfl rfl ?_
  repeat' (first|refine vs (k:=?_)|(refine bx hs (k:=?_);intro b w hz hs)|refine qRg ?_|refine Nx.h ?_|refine qCt ?_|fail)
  first | refine rt (hq := ?_) | refine rt' (hq := ?_)
  exact ⟨rfl, hs.only0 rfl⟩
theorem tdrop_nil (id : Int) (w0 : World) : Ret Tryz.prog 45 #[.pointer none, .int .i64 id] w0 fun v w' => v = .int .i64 1 ∧ Only [] w0 w' := by
  have hs := St.nil w0
  refine ret_of_xc Tryz.func45 (by kernel_rfl) rfl Tryz.ntmps45 rfl rfl rfl ?_
  repeat' (first|refine vs (k:=?_)|refine qRg ?_|refine Nx.h ?_|fail)
  (with_reducible apply xs_call); exact rfl; exact rfl; exact tfind_nil _ _
  rintro v w' ⟨rfl, ho⟩; replace hs := hs.call0 ho; repeat' (first|refine vs (k:=?_)|refine qRg ?_|refine Nx.h ?_|refine qCf ?_|fail)
  first | refine rt (hq := ?_) | refine rt' (hq := ?_)
  exact ⟨rfl, hs.only0 rfl⟩
theorem tasks_nil (w0 : World) : Ret Tryz.prog 49 #[.pointer none] w0 fun v w' => v = .slice none 0 0 ∧ Only [] w0 w' := by
  have hs := St.nil w0
  refine ret_of_xc Tryz.func49 (by kernel_rfl) rfl Tryz.ntmps49 rfl rfl rfl ?_
  repeat' (first|refine vs (k:=?_)|refine qRg ?_|refine Nx.h ?_|refine qCt ?_|fail)
  first | refine rt (hq := ?_) | refine rt' (hq := ?_)
  exact ⟨rfl, hs.only0 rfl⟩
theorem tclone_nil (w0 : World) : Ret Tryz.prog 54 #[.pointer none] w0 fun v w' => v = .pointer none ∧ Only [] w0 w' := by
  have hs := St.nil w0
  refine ret_of_xc Tryz.func54 (by kernel_rfl) rfl Tryz.ntmps54 rfl rfl rfl ?_
  repeat' (first|refine vs (k:=?_)|refine qRg ?_|refine Nx.h ?_|refine qCt ?_|fail)
  first | refine rt (hq := ?_) | refine rt' (hq := ?_)
  exact ⟨rfl, hs.only0 rfl⟩
end Go.Proofs.YtilajmcellffiaaGreatDoorX

namespace Go.Proofs.YtilajmcellffiaaGreatDoorX
open Go Go.RowKit
attribute [local irreducible] XS XC XA thenE blockE retE loopE loopS cutB cutN doneE SE
end Go.Proofs.YtilajmcellffiaaGreatDoorX

namespace Go.Proofs.YtilajmcellffiaaGreatDoorX
open Go Go.RowKit
attribute [local irreducible] XS XC XA thenE blockE retE loopE loopS cutB cutN doneE SE
def x20 : Tk := ⟨0, 1, 0, 0, 0, 0⟩
def l20 (n : Nat) : List Tk := match n with
  | 0 => List.replicate (sizeT 3) .zero
  | 1 => addT (List.replicate (sizeT 3) .zero) x20
  | 2 => addT (addT (List.replicate (sizeT 3) .zero) x20) x20
  | 3 => addT (addT (addT (List.replicate (sizeT 3) .zero) x20) x20) x20
  | _ => dropT (addT (addT (addT (List.replicate (sizeT 3) .zero) x20) x20) x20) 2
theorem a20 : addI (l20 0) x20 = 1 ∧ addE (l20 0) x20 = 0 ∧ addI (l20 1) x20 = 2 ∧ addE (l20 1) x20 = 0 ∧ addI (l20 2) x20 = 3 ∧ addE (l20 2) x20 = 0 ∧ errT (findT (l20 3) 2) = 0 ∧ addI (l20 4) x20 = 2 ∧ addE (l20 4) x20 = 0 := by decide
set_option maxHeartbeats 8000000 in
theorem awake20_ret (w0 : World) (ht : Pows w0) : Ret Tryz.prog 43 #[] w0 fun v w' => v = .bool true ∧ Only [] w0 w' := by
  have hs := St.nil w0
  obtain ⟨e1, e2, e3, e4, e5, e6, e7, e8, e9⟩ := a20
  refine ret_of_xc Tryz.func43 (by kernel_rfl) rfl Tryz.ntmps43 rfl rfl rfl ?_
  repeat' (first|refine vs (k:=?_)|refine qRg ?_|refine Nx.h ?_|fail)
  (with_reducible apply xs_call); exact rfl; exact rfl; exact tnew_ret 3 _
  rintro v w1 ⟨⟨tb, rb, rfl, hT, g1, g2, hne⟩, ho1⟩
  have hoA := (hs.only0 rfl).trans ho1
  have hzA := (hs.only0 rfl).size
  have lr : rb < w1.heap.size := by obtain ⟨_, _, _, h, _⟩ := hT; exact lt_of_block h
  clear hs
  have hs := St.nil w1
  repeat' (first|refine vs (k:=?_)|(refine stA hs (k:=?_);intro w hs)|(refine al hs (k:=?_);intro b w hz hs)|refine qRg ?_|refine Nx.h ?_|fail)
  have gb := hs.new _ List.mem_cons_self rfl
  simp only at gb
  have hnb : b ∉ [rb] := by simp; omega
  have ho0a := hs.onlyF [] (by simp) (by simp [D0])
  (with_reducible apply xs_call); exact rfl; exact rfl; exact tadd_ret tb rb (l20 0) x20 _ (hT.only ho0a)
  rw [e1, e2]
  rintro v w2 ⟨rfl, hT1, ho0b⟩
  have hb0 := ho0b.block (hs.get (b := b) (by repeat (first | exact At.head | (with_reducible apply At.tail)))) hnb
  have hoX0 := (hoA.trans ho0a).step ho0b (fun k hk => .inr (by obtain rfl := List.mem_singleton.1 hk; exact g2))
  clear hs
  have hs := (St.nil w2).trackT hb0
  repeat' (first|refine vs (k:=?_)|refine qRg ?_|refine Nx.h ?_|fail)
  have ho1a := hs.onlyF [] (by simp [hb0]) (by simp [D0])
  (with_reducible apply xs_call); exact rfl; exact rfl; exact tadd_ret tb rb (l20 1) x20 _ (hT1.only ho1a)
  rw [e3, e4]
  rintro v w3 ⟨rfl, hT2, ho1b⟩
  have hb1 := ho1b.block (hs.get (b := b) (by repeat (first | exact At.head | (with_reducible apply At.tail)))) hnb
  have hoX1 := (hoX0.trans ho1a).step ho1b (fun k hk => .inr (by obtain rfl := List.mem_singleton.1 hk; exact g2))
  clear hs
  have hs := (St.nil w3).trackT hb1
  repeat' (first|refine vs (k:=?_)|refine qRg ?_|refine Nx.h ?_|fail)
  have ho2a := hs.onlyF [] (by simp [hb1]) (by simp [D0])
  (with_reducible apply xs_call); exact rfl; exact rfl; exact tadd_ret tb rb (l20 2) x20 _ (hT2.only ho2a)
  rw [e5, e6]
  rintro v w4 ⟨rfl, hT3, ho2b⟩
  have hb2 := ho2b.block (hs.get (b := b) (by repeat (first | exact At.head | (with_reducible apply At.tail)))) hnb
  have hoX2 := (hoX1.trans ho2a).step ho2b (fun k hk => .inr (by obtain rfl := List.mem_singleton.1 hk; exact g2))
  clear hs
  have hs := (St.nil w4).trackT hb2
  repeat' (first|refine vs (k:=?_)|refine qRg ?_|refine Nx.h ?_|fail)
  have ho3a := hs.onlyF [] (by simp [hb2]) (by simp [D0])
  (with_reducible apply xs_call); exact rfl; exact rfl; exact tdrop_ret tb rb (l20 3) 2 _ (hT3.only ho3a) (by decide)
  rw [e7]
  rintro v w5 ⟨rfl, hT4, ho3b⟩
  have hb3 := ho3b.block (hs.get (b := b) (by repeat (first | exact At.head | (with_reducible apply At.tail)))) hnb
  have hoX3 := (hoX2.trans ho3a).step ho3b (fun k hk => .inr (by obtain rfl := List.mem_singleton.1 hk; exact g2))
  clear hs
  have hs := (St.nil w5).trackT hb3
  repeat' (first|refine vs (k:=?_)|refine qRg ?_|refine Nx.h ?_|fail)
  have ho4a := hs.onlyF [] (by simp [hb3]) (by simp [D0])
  (with_reducible apply xs_call); exact rfl; exact rfl; exact tadd_ret tb rb (l20 4) x20 _ (hT4.only ho4a)
  rw [e8, e9]
  rintro v w6 ⟨rfl, hT5, ho4b⟩
  have hb4 := ho4b.block (hs.get (b := b) (by repeat (first | exact At.head | (with_reducible apply At.tail)))) hnb
  have hoX4 := (hoX3.trans ho4a).step ho4b (fun k hk => .inr (by obtain rfl := List.mem_singleton.1 hk; exact g2))
  clear hs
  have hs := (St.nil w6).trackT hb4
  repeat' (first|refine vs (k:=?_)|refine qRg ?_|refine Nx.h ?_|fail)
  have hoL := hs.onlyF [] (by simp [hb4]) (by simp [D0])
  (with_reducible apply xs_call); exact rfl; exact rfl; exact Awake19_ret _ (tab_only ht (hoX4.trans hoL))
  rintro v w' ⟨rfl, ho⟩; replace hs := hs.call0 ho; repeat' (first|refine vs (k:=?_)|refine Nx.h ?_|fail)
  first | refine rt (hq := ?_) | refine rt' (hq := ?_)
  exact ⟨rfl, hoX4.trans (hs.onlyF [] (by simp [hb4]) (by simp [D0]))⟩
end Go.Proofs.YtilajmcellffiaaGreatDoorX

namespace Go.Proofs.YtilajmcellffiaaGreatDoorX
open Go Go.RowKit
attribute [local irreducible] XS XC XA thenE blockE retE loopE loopS cutB cutN doneE SE
theorem states_nil (sl : Value) (w0 : World) : Ret Tryz.prog 48 #[.pointer none, sl] w0 fun v w' => v = .slice none 0 0 ∧ Only [] w0 w' := by
  have hs := St.nil w0
  refine ret_of_xc Tryz.func48 (by kernel_rfl) rfl Tryz.ntmps48 rfl rfl rfl ?_
  repeat' (first|refine vs (k:=?_)|refine qRg ?_|refine Nx.h ?_|fail)
  (with_reducible apply xs_call); exact rfl; exact rfl; exact tasks_nil _
  rintro v w' ⟨rfl, ho⟩; replace hs := hs.call0 ho; repeat' (first|refine vs (k:=?_)|refine Nx.h ?_|fail)
  refine xc_cutB (fun (_ : Unit) => [(5, .slice none 0 0)]) (fun _ w => Only [] w0 w) ?_ ?_
  · refine xc_loopS (fun (x : Unit) => [(5, .slice none 0 0), (10, .int .i64 (0 : Nat)), (11, .int .i64 0)]) (fun x w => Only [] w0 w) (fun x => 0) () (by (repeat (first | exact agree_nil | (apply agree_cons; exact rfl)))) (hs.only0 rfl) fun i env wl ho => ?_
    clear hs
    have hs := St.nil wl
    repeat' (first|refine vs (k:=?_)|refine qRg ?_|refine Nx.h ?_|refine qCf ?_|fail)
    exact cutB_exit () (by (repeat (first | exact agree_nil | (apply agree_cons; exact rfl)))) (ho.trans (hs.only0 rfl))
  · clear hs
    rintro _ env w ho
    have hs := St.nil w
    repeat' (first|refine vs (k:=?_)|refine qRg ?_|refine Nx.h ?_|fail)
    first | refine rt (hq := ?_) | refine rt' (hq := ?_)
    exact ⟨rfl, ho.trans (hs.only0 rfl)⟩
end Go.Proofs.YtilajmcellffiaaGreatDoorX

namespace Go.Proofs.YtilajmcellffiaaGreatDoorX
open Go Go.RowKit
attribute [local irreducible] XS XC XA thenE blockE retE loopE loopS cutB cutN doneE SE
theorem none20 : addI (List.replicate (sizeT (-5)) .zero) ⟨0, 1, 0, 0, 0, 0⟩ = 0 ∧ addE (List.replicate (sizeT (-5)) .zero) ⟨0, 1, 0, 0, 0, 0⟩ = 7 := by decide
set_option maxHeartbeats 8000000 in
theorem tableNone_ret (w0 : World) (ht : Pows w0) : Ret Tryz.prog 10 #[] w0 fun v w' => v = .bool true ∧ Only [] w0 w' := by
  have hs := St.nil w0
  refine ret_of_xc Tryz.func10 (by kernel_rfl) rfl Tryz.ntmps10 rfl rfl rfl ?_
  repeat' (first|refine vs (k:=?_)|refine qRg ?_|refine Nx.h ?_|fail)
  (with_reducible apply xs_call); exact rfl; exact rfl; exact ttask_nil 1 _
  rintro v w' ⟨rfl, ho⟩; replace hs := hs.call0 ho; repeat' (first|refine vs (k:=?_)|(refine stA hs (k:=?_);intro w hs)|(refine al hs (k:=?_);intro b w hz hs)|refine qRg ?_|refine Nx.h ?_|fail)
  (with_reducible apply xs_call); exact rfl; exact rfl; exact tadd_nil .zero _
  rintro v w' ⟨rfl, ho⟩; replace hs := hs.call0 ho; repeat' (first|refine vs (k:=?_)|refine qRg ?_|refine Nx.h ?_|fail)
  (with_reducible apply xs_call); exact rfl; exact rfl; exact tnew_ret (-5) _
  rintro v w1 ⟨⟨tb, rb, rfl, hT, g1, g2, hne⟩, ho1⟩
  have hoA := (hs.only0 rfl).trans ho1
  have hz := (hs.only0 rfl).size
  clear hs
  have hs := St.nil w1
  repeat' (first|refine vs (k:=?_)|fail)
  (with_reducible apply xs_call); exact rfl; exact rfl; exact tadd_ret tb rb _ ⟨0, 1, 0, 0, 0, 0⟩ _ (hT.only (hs.only0 rfl))
  rw [none20.1, none20.2]
  rintro v w2 ⟨rfl, _, ho2⟩
  have hoB := (hoA.trans (hs.only0 rfl)).step ho2 (fun k hk => .inr (by obtain rfl := List.mem_singleton.1 hk; omega))
  clear hs
  have hs := St.nil w2
  repeat' (first|refine vs (k:=?_)|refine qRg ?_|refine Nx.h ?_|fail)
  (with_reducible apply xs_call); exact rfl; exact rfl; exact awake20_ret _ (tab_only ht (hoB.trans (hs.only0 rfl)))
  rintro v w' ⟨rfl, ho⟩; replace hs := hs.call0 ho; repeat' (first|refine vs (k:=?_)|fail)
  (with_reducible apply xs_call); exact rfl; exact rfl; exact tset_nil .zero _
  rintro v w' ⟨rfl, ho⟩; replace hs := hs.call0 ho; repeat' (first|refine vs (k:=?_)|fail)
  (with_reducible apply xs_call); exact rfl; exact rfl; exact tdrop_nil 1 _
  rintro v w' ⟨rfl, ho⟩; replace hs := hs.call0 ho; repeat' (first|refine vs (k:=?_)|fail)
  (with_reducible apply xs_call); exact rfl; exact rfl; exact tclone_nil _
  rintro v w' ⟨rfl, ho⟩; replace hs := hs.call0 ho; repeat' (first|refine vs (k:=?_)|fail)
  (with_reducible apply xs_call); exact rfl; exact rfl; exact tasks_nil _
  rintro v w' ⟨rfl, ho⟩; replace hs := hs.call0 ho; repeat' (first|refine vs (k:=?_)|(refine bs hs (k:=?_);intro b w hz hs)|fail)
  (with_reducible apply xs_call); exact rfl; exact rfl; exact states_nil _ _
  rintro v w' ⟨rfl, ho⟩; replace hs := hs.call0 ho; repeat' (first|refine vs (k:=?_)|refine Nx.h ?_|fail)
  first | refine rt (hq := ?_) | refine rt' (hq := ?_)
  exact ⟨rfl, hoB.trans (hs.only0 rfl)⟩
end Go.Proofs.YtilajmcellffiaaGreatDoorX

namespace Go.Proofs.YtilajmcellffiaaGreatDoorX
open Go Go.RowKit Go.ChangeShapes Go.WideShapes Go.ChangeAt
set_option maxRecDepth 100000 in
theorem tableNone_lifted (os : Os) (started : os.Started) (H : Type) (enc : TypeId × Value → H) :
    ReturnsInHanded {} Tryz.checked os 10 .any (fun w args => (YtilajmcellffiaaGreatDoor.Rows.tableNoneSpec.pre enc Tryz.prog Tryz.f10 [] false w args ∧ laidMetH Tryz.prog [("math/bits.deBruijn32tab", YtilajmcellffiaaGreatDoor.Rows.laid_math_bits_deBruijn32tab), ("math/bits.deBruijn64tab", YtilajmcellffiaaGreatDoor.Rows.laid_math_bits_deBruijn64tab), ("internal/strconv.uint64pow10", YtilajmcellffiaaGreatDoor.Rows.laid_internal_strconv_uint64pow10)] w) ∧ sizedMet enc Tryz.prog Tryz.f10 (OpenSpec.ofChange YtilajmcellffiaaGreatDoor.Rows.tableNoneSpec) false w args) (YtilajmcellffiaaGreatDoor.Rows.tableNoneSpec.post enc Tryz.prog Tryz.f10 false true false false) := by
  refine returnsInHanded_of_change_and (C := Tryz.checked) (X := fun w _ => laidMetH Tryz.prog [("math/bits.deBruijn32tab", YtilajmcellffiaaGreatDoor.Rows.laid_math_bits_deBruijn32tab), ("math/bits.deBruijn64tab", YtilajmcellffiaaGreatDoor.Rows.laid_math_bits_deBruijn64tab), ("internal/strconv.uint64pow10", YtilajmcellffiaaGreatDoor.Rows.laid_internal_strconv_uint64pow10)] w) (fun _ _ _ hh h => h.of_heap hh) own started (by kernel_rfl) Tryz.func10
    (ChangeSpec.witness_shaped (enc := enc) (C := Tryz.checked) (os := os) (X := fun w _ => laidMetH Tryz.prog [("math/bits.deBruijn32tab", YtilajmcellffiaaGreatDoor.Rows.laid_math_bits_deBruijn32tab), ("math/bits.deBruijn64tab", YtilajmcellffiaaGreatDoor.Rows.laid_math_bits_deBruijn64tab), ("internal/strconv.uint64pow10", YtilajmcellffiaaGreatDoor.Rows.laid_internal_strconv_uint64pow10)] w) false (World.doorLaid Tryz.prog 24 os) #[] 8 rfl (World.shaped_of_RefB (by kernel_rfl) (by kernel_rfl)) (by kernel_rfl) (by kernel_rfl) (by kernel_rfl) (door_met os _)) ?_
  intro W base args ds gs before hval0 hW hcnd hsz0 hL _
  have hP := pows_of hL
  have hval : ∀ (j : Nat) t v, Tryz.f10.params[j]? = some t → args[j]? = some v → Value.okWide Tryz.prog W .any base t v := hval0
  have hW' := hW
  obtain ⟨p, q, hA0, hV, rfl, hfz, hnd⟩ := hW
  have hA : DataW.TrodAll enc Tryz.prog W 0 (fun _ => true) true Tryz.f10.params.toList args.toList ds p := hA0
  rw [Tryz.params10] at hA hval
  obtain ⟨hargs, rfl, rfl⟩ := trodAll_nil hA
  obtain rfl : args = #[] := by cases args; simp_all
  obtain ⟨rfl, rfl⟩ := trodVars_none hV
  clear hA0 hval0 hsz0
  refine (ret_calls (by kernel_rfl) (tableNone_ret W hP)).mono fun e W' ⟨v, he, hv, ho⟩ => ?_
  subst he hv
  have bel := ho.below
  exact ⟨_, rfl, _, _, _, [], _, [], hW', trodAll_mk1 (shut_bool (by kernel_rfl) _), trodAll_mk0, rfl, bel.frame _, fun h => by cases h⟩
end Go.Proofs.YtilajmcellffiaaGreatDoorX
namespace Go.Proofs.YtilajmcellffiaaGreatDoor
open Go Go.RowKit Go.ChangeShapes Go.WideShapes Go.ChangeAt
theorem tableNone_nm : Tryz.prog.funcNamed "turnstone/turnstonelaw20.TableNone" = some 10 := by kernel_rfl
theorem tableNone_ip : (Rows.tableNoneRow.inPlace == Tryz.prog.inPlace 10) = true := by kernel_rfl
theorem tableNone_un : (Rows.tableNoneRow.unfollowed == Tryz.prog.unfollowed 10) = true := by kernel_rfl
theorem tableNone_rc : (Rows.tableNoneRow.recurses == Tryz.prog.recurses 10) = true := by kernel_rfl
theorem tableNone_nd : (Rows.tableNoneRow.named == Tryz.prog.varsNamed 10) = true := by kernel_rfl
theorem tableNone_holds : Rows.TableNoneSaid :=
  OpenClaim.holds_of_wide 10 Tryz.f10 rfl rfl rfl rfl rfl rfl rfl ⟨rfl, rfl, rfl, rfl, rfl⟩ rfl rfl rfl rfl rfl tableNone_nm Tryz.func10
    (by unfold joinedFacts; exact (and_mk (and_mk (and_mk (and_mk (and_mk (and_mk (and_mk (and_mk (and_mk (and_mk (and_mk (and_mk (and_mk (and_mk (and_mk (and_mk (and_mk (and_mk (and_mk (and_mk (and_mk (and_mk (and_mk (and_mk (and_mk (and_mk (and_mk (and_mk (and_mk (and_mk (and_mk (by kernel_rfl) pf_laid) pf_maps) (by kernel_rfl)) (by kernel_rfl)) (by kernel_rfl)) (by kernel_rfl)) (by kernel_rfl)) (by kernel_rfl)) tableNone_ip) tableNone_un) tableNone_rc) tableNone_nd) (by kernel_rfl)) (by kernel_rfl)) (by kernel_rfl)) (by kernel_rfl)) (by kernel_rfl)) (by kernel_rfl)) (by kernel_rfl)) (by kernel_rfl)) (by kernel_rfl)) pf_keys) (by kernel_rfl)) pf_heard) pf_enter) pf_lift) pf_make) (by kernel_rfl)) (by kernel_rfl)) (by kernel_rfl)) (by kernel_rfl)))
    (of_decide_eq_true (by kernel_rfl)) (by unfold Func.isWrapper; first | (rw [if_pos (by decide +kernel)]; kernel_rfl) | (rw [if_neg (by decide +kernel)]; exact ⟨rfl, rfl⟩))
    (fun os started H enc _ => YtilajmcellffiaaGreatDoorX.tableNone_lifted os started H enc)
theorem tableNone_w : Rows.tableNoneRow.wfByText (OpenSpec.ofChange Rows.tableNoneSpec) = true := by kernel_rfl
theorem tableNone_mn : Tryz.prog.mainIs = some (Rows.tableNoneCard.stood.harness.1, Rows.tableNoneCard.stood.harness.2.toList) := by kernel_rfl
theorem tableNone_lk : Rows.tableNoneCard.stood.looks = Tryz.prog.looks [] := by kernel_rfl
theorem tableNone_gs : false = Rows.tableNoneRow.goesBy Tryz.prog := by kernel_rfl
theorem tableNone_card : Rows.TableNoneCardSaid :=
  Claim7.holds_tied_plain_at .later [] [.data, .data, .data] true Rows.tableNoneCard.stood.harness Rows.tableNoneCard.stood.looks
    tableNone_holds (fun _ h => by cases h) tableNone_w (fun _ h => by cases h) tableNone_row_tie rfl ⟨rfl, rfl⟩ tableNone_mn rfl
    (fun f fn hf hfn => by
      obtain rfl : f = 10 := Option.some.inj (tableNone_nm.symm.trans hf) |>.symm
      obtain rfl : fn = Tryz.f10 := (Option.some.inj (Tryz.func10.symm.trans hfn)).symm
      exact ⟨tableNone_lk, fun j t ht => by
        rw [Tryz.params10] at ht
        have hm : t ∈ [] := by simpa using Array.mem_of_getElem? ht
        have hall : ([].all fun u => !Tryz.prog.wantsStandIn u) = true := by kernel_rfl
        exact (show Tryz.prog.wantsStandIn t = false by simpa using List.all_eq_true.1 hall t hm)⟩)
    tableNone_gs
end Go.Proofs.YtilajmcellffiaaGreatDoor
