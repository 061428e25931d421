/- A part of the proof: what its functions compute. -/
import Derived.Test.YtilajmcellffiaaGreatDoorLimitsAsk1
import Derived.Shelf.SlMaps.Clone
import Derived.Ground.SlmcProg
import Derived.Laws.OwnMore
set_option linter.unusedVariables false
set_option linter.unusedSimpArgs false
set_option maxRecDepth 100000
namespace Go.Proofs.YtilajmcellffiaaGreatDoorX
open Go Go.RowKit Go.Maps Go.Shelf
open IB (IT ITsAt flatT)
attribute [local irreducible] XS XC XA thenE blockE retE loopE loopS cutB cutN doneE SE
theorem mcloneI_ret (b c : Nat) (f : Int → Option Value) (w0 : World) (h : MapAt w0 b f c) : Ret Tryz.prog 108 #[.map (some b)] w0 fun v w' => (∃ mb, v = .map (some mb) ∧ MapAt w' mb f c ∧ w0.heap.size ≤ mb) ∧ Only [] w0 w' := by
  obtain ⟨D, h1, h2⟩ := h
  exact ret_of_calls (by kernel_rfl) ((AnyW.maps_Clone_owns Tryz.cloneI 3 hld b c D w0 h1).mono fun e w' ⟨he, k1, k2, k3⟩ => ⟨_, he, ⟨_, rfl, ⟨D, k1, h2⟩, Nat.le_refl _⟩, Only.of_below k3⟩)
theorem mcloneR_ret (b c : Nat) (f : Int → Option Value) (w0 : World) (h : MapAt w0 b f c) : Ret Tryz.prog 66 #[.map (some b)] w0 fun v w' => (∃ mb, v = .map (some mb) ∧ MapAt w' mb f c ∧ w0.heap.size ≤ mb) ∧ Only [] w0 w' := by
  obtain ⟨D, h1, h2⟩ := h
  exact ret_of_calls (by kernel_rfl) ((AnyW.maps_Clone_owns Tryz.cloneR 3 hld b c D w0 h1).mono fun e w' ⟨he, k1, k2, k3⟩ => ⟨_, he, ⟨_, rfl, ⟨D, k1, h2⟩, Nat.le_refl _⟩, Only.of_below k3⟩)
set_option maxHeartbeats 4000000 in
theorem qclone_ret (qb : Nat) (s : Qs) (F : List Nat) (w0 : World) (h : QAt w0 qb s F) :
    Ret Tryz.prog 65 #[.pointer (some ⟨qb, 0, none⟩)] w0 fun v w' => (∃ q' F', v = .pointer (some ⟨q', 0, none⟩) ∧ QAt w' q' s F' ∧ ∀ k ∈ F', w0.heap.size ≤ k) ∧ Only [] w0 w' := by
  obtain ⟨tb, mb, Ft, rfl, h1, h2, h3, h4, h5⟩ := h
  have hs := (St.nil w0).track h1 (by simp)
  refine ret_of_xc Tryz.func65 (by kernel_rfl) rfl Tryz.ntmps65 rfl rfl rfl ?_
  repeat' (first|refine vs (k:=?_)|refine qRg ?_|refine Nx.h ?_|refine qCf ?_|fail)
  refine dr [] hs (k := ?_); intro hX w hs
  refine tk 0 hX (k := ?_)
  refine tk 1 hX (k := ?_)
  refine tk 2 hX (k := ?_)
  refine tk 3 hX (k := ?_)
  refine tk 4 hX (k := ?_)
  refine tk 5 hX (k := ?_)
  refine tk 6 hX (k := ?_)
  refine tk 7 hX (k := ?_)
  refine tk 9 hX (k := ?_)
  refine tk 10 hX (k := ?_)
  refine tk 11 hX (k := ?_)
  refine tk 12 hX (k := ?_)
  refine tk 14 hX (k := ?_)
  refine tk 15 hX (k := ?_)
  refine tk 16 hX (k := ?_)
  refine tk 17 hX (k := ?_)
  refine dt 8 hX (k := ?_)
  have ho := hs.onlyF [] (by simp [h1]) (by simp [D0])
  (with_reducible apply xs_call); exact rfl; exact rfl; exact IB.dclone_ret tb s.t Ft _ (h3.only ho)
  rintro v w1 ⟨⟨t', Ft', rfl, k3, hF⟩, ho1⟩; replace hs := hs.call0 ho1; repeat' (first|refine Nx.h ?_|fail)
  have n1 := ho.size
  refine dn (k := ?_)
  refine dt 13 hX (k := ?_)
  have ho2 := hs.onlyF [] (by simp [h1]) (by simp [D0])
  (with_reducible apply xs_call); exact rfl; exact rfl; exact mcloneI_ret mb s.n _ _ (h2.keep ho2 (by simp))
  rintro v w2 ⟨⟨m', rfl, k2, hm⟩, ho3⟩; replace hs := hs.call0 ho3
  have n2 := ho2.size
  have l3 := k3.lt
  have hoA := hs.onlyF [] (by simp [h1]) (by simp [D0])
  have kq := hs.get At.head
  have n3 := hoA.size
  have n4 := ho3.size
  clear hs
  have hs := (St.nil w2).track kq (by simp)
  repeat' (first|refine Nx.h ?_|fail)
  refine dn (k := ?_)
  refine tk 18 hX (k := ?_)
  refine dt 19 hX (k := ?_)
  repeat' (first|(refine bx hs (k:=?_);intro b w hz hs)|refine Nx.h ?_|fail)
  have n5 := hs.new _ (List.mem_cons_self) rfl
  simp only at n5
  refine dn (k := ?_)
  refine tk 20 hX (k := ?_)
  refine en (k := ?_)
  repeat' (first|refine Nx.h ?_|fail)
  first | refine rt (hq := ?_) | refine rt' (hq := ?_)
  have ho4 := hs.onlyF [] (by simp [kq]) (by simp [D0])
  exact ⟨⟨_, _, rfl, ⟨t', m', Ft', rfl, hs.get At.head, k2.keep ho4 (by simp), (k3.only ho3).only ho4, h4, h5⟩, fun k hk => by
    simp only [List.mem_cons] at hk
    rcases hk with rfl | rfl | hk
    · omega
    · omega
    · have := hF k hk; omega⟩, hoA.step ho4 (by simp)⟩
set_option maxHeartbeats 4000000 in
theorem sclone_ret (sb : Nat) (s : Ss) (F : List Nat) (w0 : World) (h : SAt w0 sb s F) :
    Ret Tryz.prog 16 #[.pointer (some ⟨sb, 0, none⟩)] w0 fun v w' => (∃ s' F', v = .pointer (some ⟨s', 0, none⟩) ∧ SAt w' s' s F' ∧ ∀ k ∈ F', w0.heap.size ≤ k) ∧ Only [] w0 w' := by
  obtain ⟨qb, mb, Fq, rfl, h1, h2, h3, h4, h5⟩ := h
  have hs := (St.nil w0).track h1 (by simp)
  refine ret_of_xc Tryz.func16 (by kernel_rfl) rfl Tryz.ntmps16 rfl rfl rfl ?_
  repeat' (first|refine vs (k:=?_)|refine qRg ?_|refine Nx.h ?_|refine qCf ?_|fail)
  refine dr [] hs (k := ?_); intro hX w hs
  refine tk 0 hX (k := ?_)
  refine tk 1 hX (k := ?_)
  refine tk 2 hX (k := ?_)
  refine tk 3 hX (k := ?_)
  refine tk 5 hX (k := ?_)
  refine tk 6 hX (k := ?_)
  refine tk 7 hX (k := ?_)
  refine tk 8 hX (k := ?_)
  refine dt 4 hX (k := ?_)
  have ho := hs.onlyF [] (by simp [h1]) (by simp [D0])
  (with_reducible apply xs_call); exact rfl; exact rfl; exact qclone_ret qb s.q Fq _ (h3.only ho)
  rintro v w1 ⟨⟨q', Fq', rfl, k3, hF⟩, ho1⟩; replace hs := hs.call0 ho1; repeat' (first|refine Nx.h ?_|fail)
  have n1 := ho.size
  refine dn (k := ?_)
  refine dt 9 hX (k := ?_)
  have ho2 := hs.onlyF [] (by simp [h1]) (by simp [D0])
  (with_reducible apply xs_call); exact rfl; exact rfl; exact mcloneR_ret mb s.l.length _ _ (h2.keep ho2 (by simp))
  rintro v w2 ⟨⟨m', rfl, k2, hm⟩, ho3⟩; replace hs := hs.call0 ho3
  have n2 := ho2.size
  have l3 := k3.lt
  have hoA := hs.onlyF [] (by simp [h1]) (by simp [D0])
  have kq := hs.get At.head
  have n3 := hoA.size
  have n4 := ho3.size
  clear hs
  have hs := (St.nil w2).track kq (by simp)
  repeat' (first|refine Nx.h ?_|fail)
  refine dn (k := ?_)
  refine tk 10 hX (k := ?_)
  refine dt 11 hX (k := ?_)
  repeat' (first|(refine bx hs (k:=?_);intro b w hz hs)|refine Nx.h ?_|fail)
  have n5 := hs.new _ (List.mem_cons_self) rfl
  simp only at n5
  refine dn (k := ?_)
  refine tk 12 hX (k := ?_)
  refine en (k := ?_)
  repeat' (first|refine Nx.h ?_|fail)
  first | refine rt (hq := ?_) | refine rt' (hq := ?_)
  have ho4 := hs.onlyF [] (by simp [kq]) (by simp [D0])
  exact ⟨⟨_, _, rfl, ⟨q', m', Fq', rfl, hs.get At.head, k2.keep ho4 (by simp), (k3.only ho3).only ho4, fun hm' => by have := l3 _ hm'; omega, h5⟩, fun k hk => by
    simp only [List.mem_cons] at hk
    rcases hk with rfl | rfl | hk
    · omega
    · omega
    · have := hF k hk; omega⟩, hoA.step ho4 (by simp)⟩
end Go.Proofs.YtilajmcellffiaaGreatDoorX

namespace Go.Proofs.YtilajmcellffiaaGreatDoorX
open Go Go.RowKit
open IB (IT ITsAt flatT)
attribute [local irreducible] XS XC XA thenE blockE retE loopE loopS cutB cutN doneE SE
def SetAt (w : World) (sb : Nat) (A : As) (F : List Nat) : Prop := ∃ s, SAt w sb s F ∧ Rep s A
theorem SetAt.keepD {w w' : World} {sb : Nat} {A : As} {F G : List Nat} (h : SetAt w sb A F) (ho : Only G w w') (hd : ∀ k ∈ F, k ∉ G) : SetAt w' sb A F := by obtain ⟨s, h1, h2⟩ := h; exact ⟨s, h1.keepD ho hd, h2⟩
theorem SetAt.only {w w' : World} {sb : Nat} {A : As} {F : List Nat} (h : SetAt w sb A F) (ho : Only [] w w') : SetAt w' sb A F := h.keepD ho (by simp)
theorem SetAt.lt {w : World} {sb : Nat} {A : As} {F : List Nat} (h : SetAt w sb A F) : ∀ k ∈ F, k < w.heap.size := by obtain ⟨s, h1, h2⟩ := h; exact h1.lt
theorem SetAt.not {w : World} {sb : Nat} {A : As} {F : List Nat} (h : SetAt w sb A F) {b : Nat} {cs : Array Value} {ty : Nat} {fz : Nat × Nat} (hb : w.heap[b]? = some (.cells cs ty fz)) (ho : okS (.cells cs ty fz) = true) : b ∉ F := by obtain ⟨s, h1, h2⟩ := h; exact h1.not hb ho
def QuAt (w : World) (qb : Nat) (A : As) : Prop := ∃ s F, QAt w qb s.q F ∧ Rep s A
theorem QuAt.only {w w' : World} {qb : Nat} {A : As} (h : QuAt w qb A) (ho : Only [] w w') : QuAt w' qb A := by obtain ⟨s, F, h1, h2⟩ := h; exact ⟨s, F, h1.only ho, h2⟩
theorem SetAt.opn {w : World} {sb : Nat} {A : As} {F : List Nat} (h : SetAt w sb A F) : ∃ qb mb, w.heap[sb]? = some (setO qb mb) ∧ QuAt w qb A := by
  obtain ⟨s, ⟨qb, mb, Fq, rfl, h1, h2, h3, h4⟩, hr⟩ := h
  exact ⟨qb, mb, h1, s, Fq, h3, hr⟩
theorem SetAt.rep {w : World} {sb : Nat} {A : As} {F : List Nat} (h : SetAt w sb A F) : ∃ s, Rep s A := by obtain ⟨s, h1, h2⟩ := h; exact ⟨s, h2⟩
theorem Rep.small {s : Ss} {A : As} (h : Rep s A) : s.l.length < 1000000 ∧ s.q.t.list.length + 1 ≤ 1000000 ∧ s.q.n < 1000000 ∧ A.l.length ≤ 1000000 := by
  have := h.le
  have := h.len
  have := h.q.n
  rw [h.l]; omega
def Left (w0 : World) (sb : Nat) (A : As) (F : List Nat) (w' : World) : Prop := ∃ F', SetAt w' sb A F' ∧ (∀ k ∈ F', k ∈ F ∨ w0.heap.size ≤ k) ∧ Only F w0 w'
theorem anew_ret (c : Int) (hc : U64 c) (w0 : World) : Ret Tryz.prog 13 #[.int .u64 c] w0 fun v w' => (∃ sb F, v = .pointer (some ⟨sb, 0, none⟩) ∧ SetAt w' sb ⟨[], c⟩ F ∧ ∀ k ∈ F, w0.heap.size ≤ k) ∧ Only [] w0 w' :=
  (snew_ret c hc w0).mono fun v w' ⟨⟨sb, F, h1, h2, h3⟩, ho⟩ => ⟨⟨sb, F, h1, ⟨_, h2, Rep.new c⟩, h3⟩, ho⟩
theorem aenter_ret (sb : Nat) (A : As) (F : List Nat) (r : RT) (w0 : World) (h : SetAt w0 sb A F) : Ret Tryz.prog 15 #[.pointer (some ⟨sb, 0, none⟩), rv r.1] w0 fun v w' => v = .int .i64 (entE A r) ∧ Left w0 sb (entA A r) F w' := by
  obtain ⟨s, h1, h2⟩ := h
  obtain ⟨k1, k2⟩ := h2.enter r
  rw [← k1]
  exact (enter_ret sb s F r w0 h1 h2.small.1 h2.small.2.1 h2.small.2.2.1).mono fun v w' ⟨e, F', a, b⟩ => ⟨e, F', ⟨_, a, k2⟩, b⟩
theorem aput_ret (sb : Nat) (A : As) (F : List Nat) (r : RT) (w0 : World) (h : SetAt w0 sb A F) : Ret Tryz.prog 230 #[.pointer (some ⟨sb, 0, none⟩), rv r.1] w0 fun v w' => v = .int .i64 (putE A r) ∧ Left w0 sb (putA A r) F w' := by
  obtain ⟨s, h1, h2⟩ := h
  obtain ⟨k1, k2, k3⟩ := h2.put r
  rw [← k1]
  exact (sput_ret sb s F r w0 h1 h2.small.1 h2.small.2.1 h2.small.2.2.1 k3).mono fun v w' ⟨e, F', a, b⟩ => ⟨e, F', ⟨_, a, k2⟩, b⟩
theorem areq_ret (sb : Nat) (A : As) (F : List Nat) (id : Int) (w0 : World) (h : SetAt w0 sb A F) (hid : In64 id) : Ret Tryz.prog 25 #[.pointer (some ⟨sb, 0, none⟩), .int .i64 id] w0 fun v w' => v = .tuple #[rv (getL A.l id), .bool (findR A.l id).isSome] ∧ Only [] w0 w' := by
  obtain ⟨s, h1, h2⟩ := h
  rw [← h2.l]
  exact req_ret sb s F id w0 h1 hid
theorem aclone_ret (sb : Nat) (A : As) (F : List Nat) (w0 : World) (h : SetAt w0 sb A F) : Ret Tryz.prog 16 #[.pointer (some ⟨sb, 0, none⟩)] w0 fun v w' => (∃ s' F', v = .pointer (some ⟨s', 0, none⟩) ∧ SetAt w' s' A F' ∧ ∀ k ∈ F', w0.heap.size ≤ k) ∧ Only [] w0 w' := by
  obtain ⟨s, h1, h2⟩ := h
  exact (sclone_ret sb s F w0 h1).mono fun v w' ⟨⟨s', F', e, a, b⟩, ho⟩ => ⟨⟨s', F', e, ⟨s, a, h2⟩, b⟩, ho⟩
theorem alag_ret (qb : Nat) (A : As) (id : Int) (w0 : World) (h : QuAt w0 qb A) (hid : In64 id) : Ret Tryz.prog 27 #[.pointer (some ⟨qb, 0, none⟩), .int .i64 id] w0 fun v w' => v = .tuple #[wv (lagA A id), .int .i64 (errN (findR A.l id).isSome)] ∧ Only [] w0 w' := by
  obtain ⟨s, F, h1, h2⟩ := h
  rw [← h2.lag, ← h2.fs]
  exact qlag_ret qb s.q F id w0 h1 hid
theorem anow_ret (qb : Nat) (A : As) (w0 : World) (h : QuAt w0 qb A) : Ret Tryz.prog 19 #[.pointer (some ⟨qb, 0, none⟩)] w0 fun v w' => v = .int .u64 (nowA A) ∧ Only [] w0 w' := by
  obtain ⟨s, F, h1, h2⟩ := h
  rw [← h2.now]
  exact qnow_ret qb s.q F w0 h1
theorem alen_ret (qb : Nat) (A : As) (w0 : World) (h : QuAt w0 qb A) : Ret Tryz.prog 21 #[.pointer (some ⟨qb, 0, none⟩)] w0 fun v w' => v = .int .i64 (A.l.length : Nat) ∧ Only [] w0 w' := by
  obtain ⟨s, F, h1, h2⟩ := h
  rw [← h2.len]
  exact qlen_ret qb s.q F w0 h1
def MeanFor (A : As) (m : Mn) : Prop := if A.l = [] then m.a = 0 ∧ m.w = 0 ∧ m.n = 0 else m = mA A
theorem Rep.meanFor {s : Ss} {A : As} (h : Rep s A) : MeanFor A s.q.m := by
  unfold MeanFor
  by_cases e : A.l = []
  · rw [if_pos e]; exact h.q.nil (h.nil.2 e)
  · rw [if_neg e]; exact h.mean e
def run1 (A : As) : Int := soonId' (soonA (flushA A).2)
theorem asettle_ret (sb : Nat) (A : As) (F : List Nat) (w0 : World) (h : SetAt w0 sb A F) :
    Ret Tryz.prog 22 #[.pointer (some ⟨sb, 0, none⟩)] w0 fun v w' => ∃ sl, v = .tuple #[sl, .int .i64 (run1 A)] ∧ (∃ G, SlV w' 140 13 sl (flushA A).1.length (flatG (flushA A).1) G ∧ ∀ k ∈ G, w0.heap.size ≤ k) ∧ Left w0 sb (flushA A).2 F w' := by
  obtain ⟨s, h1, h2⟩ := h
  obtain ⟨s', k1, k2⟩ := h2.flush
  have hl : ∀ n B, (flushN n B).1.length ≤ n := fun n => by
    induction n with
    | zero => intro B; exact Nat.le_refl _
    | succ n ih =>
      intro B
      unfold flushN
      cases B.l.find? (goesA B) with
      | none => exact Nat.zero_le _
      | some a => simp only [List.length_cons]; have := ih (extA B (idR a)); omega
  have := h2.small
  have hle := hl A.l.length A
  unfold run1
  rw [← k2.soonId]
  exact (settle_ret sb s s' (flushA A).1 F w0 h1 (by omega) (by omega) (by show (flushN _ _).1.length ≤ _; omega) k1).mono fun v w' ⟨sl, e, a, F', b, c⟩ => ⟨sl, e, a, F', ⟨_, b, k2⟩, c⟩
end Go.Proofs.YtilajmcellffiaaGreatDoorX

namespace Go.Proofs.YtilajmcellffiaaGreatDoorX
open Go Go.RowKit
section
variable {P : Program} {ops : Array Oper} {QE : Exit → Env → World → Prop} {n : Nat} {rest : List Oper} {env : Env} {w : World} {T : Tab}
  {d : Option Nat} {ty : Nat} {pos : String} {aft : Array Edge} {g : Option (Nat × Bool)}
theorem append_0 {t e : Nat} (ht : P.underlying t = some (.slice e)) {i : TypeInfo} (hi : P.info? e = some i) {size : Nat} {v y : Value} {k : Nat} {xs ys : List Value} {G Gy : List Nat} (hO : SlV w e size v k xs G) (hY : SlV w e size y 0 ys Gy) : (Builtin.append_ #[t, t] ty #[v, y]).run P w = .ok v w := by
  rcases hY with ⟨rfl, -⟩ | ⟨b, c, cur, rfl, -⟩ <;> rcases hO with ⟨rfl, -⟩ | ⟨b', c', cur', rfl, -, hn, -⟩
  · simp [Builtin.append_, run_underlying ht, sizeOf, typeInfo, hi, Builtin.lenOf, Builtin.firstCells]
  · simp [Builtin.append_, run_underlying ht, sizeOf, typeInfo, hi, Builtin.lenOf, Builtin.firstCells, hn, storeCells]
  · simp [Builtin.append_, run_underlying ht, sizeOf, typeInfo, hi, Builtin.lenOf, Builtin.firstCells, loadCells, loadCellsFrom, Result.andThen]
  · simp [Builtin.append_, run_underlying ht, sizeOf, typeInfo, hi, Builtin.lenOf, Builtin.firstCells, loadCells, loadCellsFrom, Result.andThen, hn, storeCells]
theorem xs_appendL (hT : TabOk P T) {t e size bytes : Nat} {zs : List Value} {x y : Operand} {v u : Value} {k c : Nat} {xs ys : List Value} {G Gy : List Nat} (hw : wantedE ops env g = true) (hsl : look t T.sls = some (e, size, bytes)) (hz : look e T.zs = some zs) (hzl : Nat.beq zs.length size = true)
    (hx : ev env x = v) (hy : ev env y = u) (h1 : ∀ u ∈ ys, u.oneCell' = true) (hO : SlV w e size v k xs G) (hY : SlV w e size u c ys Gy)
    (hk : (k + c) * bytes ≤ 140737488355328) (hk' : k + c ≤ 9223372036854775807) (kk : ∀ v' w', (∃ G', SlV w' e size v' (k + c) (xs ++ ys) G' ∧ ∀ i ∈ G', i ∈ G ∨ w.heap.size ≤ i) → Only G w w' → XS P ops QE n rest (updO env d v') w') :
    XS P ops QE n (⟨d, .call { callee := .builtin .append, args := #[x, y], argTypes := #[t, t] }, ty, pos, aft, g⟩ :: rest) env w := by
  by_cases h0 : c = 0
  · subst h0
    obtain ⟨hu, i, hi, hs1, hs2⟩ := sl_parts (hT.sl hsl)
    have hr := append_0 (ty := ty) hu hi hO hY
    have e : ys = [] := by
      rcases hY with ⟨_, _, h, _⟩ | ⟨_, _, _, _, _, _, _, h, _⟩
      · exact h
      · exact List.eq_nil_of_length_eq_zero (by rw [h, Nat.zero_mul])
    refine XS.value hw (v := v) (w' := w) ?_ (kk v w ⟨G, by rw [e, List.append_nil]; exact hO, fun i hi => .inl hi⟩ (Only.refl _ _))
    simp [execOp, resolve, Sem.run_bind, invoke, builtin, hx, hy, hr]
  · rcases hY with ⟨_, h, _⟩ | ⟨b, cap, cur, rfl, hG, hc, hcl, hl, ht, hb⟩
    · exact absurd h h0
    · refine xs_appendW (c := c) (m := cap) (a := ⟨b, 0, none⟩) hT hw hsl hz hzl hx hy hl (by omega) (fun j u hj => ?_) h1 hO hk hk' kk
      have : cur[j]? = some u := by
        rw [← ht, List.getElem?_take] at hj
        split at hj
        · exact hj
        · cases hj
      exact lit_cells hb j u this
end
end Go.Proofs.YtilajmcellffiaaGreatDoorX

namespace Go.Proofs.YtilajmcellffiaaGreatDoorX
open Go Go.RowKit
attribute [local irreducible] XS XC XA thenE blockE retE loopE loopS cutB cutN doneE SE
end Go.Proofs.YtilajmcellffiaaGreatDoorX

namespace Go.Proofs.YtilajmcellffiaaGreatDoorX
open Go Go.RowKit
attribute [local irreducible] XS XC XA thenE blockE retE loopE loopS cutB cutN doneE SE
structure Cs where
  A : As
  run : Int
  carr : Int
abbrev coreO (sb : Nat) (run carr : Int) : Obj := .cells #[.pointer (some ⟨sb, 0, none⟩), .int .i64 run, .int .i64 (carr / 18446744073709551616), .int .u64 (carr % 18446744073709551616)] 267 (0, 0)
def CAt (w : World) (cb : Nat) (c : Cs) (F : List Nat) : Prop := ∃ sb Fs, F = cb :: Fs ∧ w.heap[cb]? = some (coreO sb c.run c.carr) ∧ SetAt w sb c.A Fs ∧ InW c.carr ∧ In64 c.run
theorem coreOk (sb : Nat) (run carr : Int) : okS (coreO sb run carr) = true := by rfl
theorem CAt.nod {w : World} {cb sb : Nat} {r k : Int} {A : As} {Fs : List Nat} (h : w.heap[cb]? = some (coreO sb r k)) (hS : SetAt w sb A Fs) : cb ∉ Fs := hS.not h (coreOk sb r k)
theorem CAt.keepD {w w' : World} {cb : Nat} {c : Cs} {F G : List Nat} (h : CAt w cb c F) (ho : Only G w w') (hd : ∀ k ∈ F, k ∉ G) : CAt w' cb c F := by
  obtain ⟨sb, Fs, rfl, h1, h2, h3⟩ := h
  exact ⟨sb, Fs, rfl, ho.block h1 (hd cb (by simp)), h2.keepD ho (fun k hk => hd k (by simp [hk])), h3⟩
theorem CAt.only {w w' : World} {cb : Nat} {c : Cs} {F : List Nat} (h : CAt w cb c F) (ho : Only [] w w') : CAt w' cb c F := h.keepD ho (by simp)
theorem CAt.lt {w : World} {cb : Nat} {c : Cs} {F : List Nat} (h : CAt w cb c F) : ∀ k ∈ F, k < w.heap.size := by
  obtain ⟨sb, Fs, rfl, h1, h2, h3⟩ := h
  intro k hk
  rcases List.mem_cons.1 hk with rfl | hk
  · exact lt_of_block h1
  · exact h2.lt k hk
def okC : Obj → Bool
  | .cells cs ty f => okS (.cells cs ty f) && !(Nat.beq ty 267)
  | _ => false
theorem CAt.not {w : World} {cb : Nat} {c : Cs} {F : List Nat} (h : CAt w cb c F) {b : Nat} {cs : Array Value} {ty : Nat} {fz : Nat × Nat} (hb : w.heap[b]? = some (.cells cs ty fz)) (ho : okC (.cells cs ty fz) = true) : b ∉ F := fun hm => by
  obtain ⟨sb, Fs, rfl, h1, h2, h3⟩ := h
  simp only [okC, Bool.and_eq_true, Bool.not_eq_true'] at ho
  rcases List.mem_cons.1 hm with rfl | hm
  · exact blocks_ne hb h1 (fun e => by rw [e] at ho; exact absurd ho.2 (by decide)) rfl
  · exact h2.not hb ho.1 hm
theorem CAt.rep {w : World} {cb : Nat} {c : Cs} {F : List Nat} (h : CAt w cb c F) : (∃ s, Rep s c.A) ∧ InW c.carr := by
  obtain ⟨sb, Fs, rfl, h1, h2, h3⟩ := h
  exact ⟨h2.rep, h3.1⟩
def newC (clock : Int) : Cs := ⟨⟨[], clock⟩, 0, 0⟩
theorem cnew_ret (clock : Int) (hc : U64 clock) (w0 : World) : Ret Tryz.prog 160 #[.int .u64 clock] w0 fun v w' => (∃ cb F, v = .pointer (some ⟨cb, 0, none⟩) ∧ CAt w' cb (newC clock) F ∧ ∀ k ∈ F, w0.heap.size ≤ k) ∧ Only [] w0 w' := by
  have hs := St.nil w0
  refine ret_of_xc Tryz.func160 (by kernel_rfl) rfl Tryz.ntmps160 rfl rfl rfl ?_
  repeat' (first|refine vs (k:=?_)|refine qRg ?_|refine Nx.h ?_|fail)
  (with_reducible apply xs_call); exact rfl; exact rfl; exact anew_ret clock hc _
  rintro v w1 ⟨⟨sb, F, rfl, h1, h2⟩, ho1⟩; replace hs := hs.call0 ho1
  have hoA := hs.only0 rfl
  have hz := hoA.size
  have hl := h1.lt
  clear hs
  have hs := St.nil w1
  repeat' (first|refine vs (k:=?_)|(refine bx hs (k:=?_);intro b w hz hs)|refine Nx.h ?_|fail)
  have hb := hs.new _ List.mem_cons_self rfl
  simp only at hb
  first | refine rt (hq := ?_) | refine rt' (hq := ?_)
  have ho2 := hs.only0 rfl
  exact ⟨⟨_, _, rfl, ⟨sb, F, rfl, hs.get At.head, h1.only ho2, inW0, in640⟩, fun k hk => by
    rcases List.mem_cons.1 hk with rfl | hk
    · omega
    · have := h2 k hk; omega⟩, hoA.trans ho2⟩
set_option maxHeartbeats 4000000 in
theorem cclone_ret (cb : Nat) (c : Cs) (F : List Nat) (w0 : World) (h : CAt w0 cb c F) : Ret Tryz.prog 226 #[.pointer (some ⟨cb, 0, none⟩)] w0 fun v w' => (∃ cb' F', v = .pointer (some ⟨cb', 0, none⟩) ∧ CAt w' cb' c F' ∧ ∀ k ∈ F', w0.heap.size ≤ k) ∧ Only [] w0 w' := by
  obtain ⟨sb, Fs, rfl, h1, h2, h3, h4⟩ := h
  have hs := (St.nil w0).track h1 (by simp)
  refine ret_of_xc Tryz.func226 (by kernel_rfl) rfl Tryz.ntmps226 rfl rfl rfl ?_
  repeat' (first|refine vs (k:=?_)|refine qRg ?_|refine Nx.h ?_|refine qCf ?_|fail)
  refine dr [] hs (k := ?_); intro hX w hs
  refine tk 0 hX (k := ?_)
  refine tk 1 hX (k := ?_)
  refine tk 2 hX (k := ?_)
  refine tk 3 hX (k := ?_)
  refine tk 5 hX (k := ?_)
  refine tk 6 hX (k := ?_)
  refine tk 7 hX (k := ?_)
  refine tk 8 hX (k := ?_)
  refine tk 9 hX (k := ?_)
  refine tk 10 hX (k := ?_)
  refine tk 11 hX (k := ?_)
  refine tk 12 hX (k := ?_)
  refine dt 4 hX (k := ?_)
  have ho := hs.onlyF [] (by simp [h1]) (by simp [D0])
  (with_reducible apply xs_call); exact rfl; exact rfl; exact aclone_ret sb c.A Fs _ (h2.only ho)
  rintro v w1 ⟨⟨s', Fs', rfl, k3, hF⟩, ho1⟩; replace hs := hs.call0 ho1
  have n1 := ho.size
  have l3 := k3.lt
  have hoA := hs.onlyF [] (by simp [h1]) (by simp [D0])
  have kq := hs.get At.head
  have n3 := hoA.size
  clear hs
  have hs := (St.nil w1).track kq (by simp)
  repeat' (first|refine Nx.h ?_|fail)
  refine dn (k := ?_)
  refine tk 13 hX (k := ?_)
  refine dt 14 hX (k := ?_)
  repeat' (first|(refine bx hs (k:=?_);intro b w hz hs)|refine Nx.h ?_|fail)
  have n5 := hs.new _ (List.mem_cons_self) rfl
  simp only at n5
  refine dn (k := ?_)
  refine tk 15 hX (k := ?_)
  refine en (k := ?_)
  repeat' (first|refine Nx.h ?_|fail)
  first | refine rt (hq := ?_) | refine rt' (hq := ?_)
  have ho4 := hs.onlyF [] (by simp [kq]) (by simp [D0])
  exact ⟨⟨_, _, rfl, ⟨s', Fs', rfl, hs.get At.head, k3.only ho4, h3, h4⟩, fun k hk => by
    rcases List.mem_cons.1 hk with rfl | hk
    · omega
    · have := hF k hk; omega⟩, hoA.step ho4 (by simp)⟩
theorem lagof_ret (cb : Nat) (c : Cs) (F : List Nat) (id : Int) (w0 : World) (h : CAt w0 cb c F) (hid : In64 id) : Ret Tryz.prog 209 #[.pointer (some ⟨cb, 0, none⟩), .int .i64 id] w0 fun v w' => v = wv (lagA c.A id) ∧ Only [] w0 w' := by
  obtain ⟨sb, Fs, rfl, h1, h2, h3⟩ := h
  obtain ⟨qb, mb, g1, g2⟩ := h2.opn
  have n1 : cb ≠ sb := blocks_ne h1 g1 (by decide)
  have hs := ((St.nil w0).track g1 (by simp)).track h1 (by simpa using n1)
  refine ret_of_xc Tryz.func209 (by kernel_rfl) rfl Tryz.ntmps209 rfl rfl rfl ?_
  repeat' (first|refine vs (k:=?_)|(refine al hs (k:=?_);intro b w hz hs)|refine qRg ?_|refine Nx.h ?_|fail)
  have ho := hs.onlyF [] (by simp [h1, g1]) (by simp [D0])
  (with_reducible apply xs_call); exact rfl; exact rfl; exact alag_ret qb c.A id _ (g2.only ho) hid
  rintro v w' ⟨rfl, ho⟩; replace hs := hs.call0 ho; repeat' (first|refine vs (k:=?_)|(refine stA hs (k:=?_);intro w hs)|(refine al hs (k:=?_);intro b w hz hs)|refine qRg ?_|refine Nx.h ?_|fail)
  first | refine rt (hq := ?_) | refine rt' (hq := ?_)
  exact ⟨rfl, hs.onlyF [] (by simp [h1, g1]) (by simp [D0])⟩
def carryW (x lag : Int) : Int := if InW (x + caF 0 [lag]) then x + caF 0 [lag] else great
theorem caF_in (x : Int) (hx : InW x) : InW (caF 0 [x]) := by
  unfold caF caF
  split
  · rename_i h; exact h
  · exact great_in
theorem carryW_in (x lag : Int) : InW (carryW x lag) := by
  unfold carryW
  split
  · rename_i h; exact h
  · exact great_in
theorem wat_1 {w : World} {b : Nat} {x : Int} (hb : w.heap[b]? = some (.cells #[.int .i64 (x / 18446744073709551616), .int .u64 (x % 18446744073709551616)] 61 (0, 0))) : WAt w (.slice (some ⟨b, 0, none⟩) 1 1) [x] :=
  ⟨_, 1, rfl, fun _ => ⟨b, 0, _, _, (0, 0), rfl, hb, fun i x h => by
    rcases i with _ | i
    · cases h; exact ⟨rfl, rfl⟩
    · simp at h⟩⟩
theorem csize_min (w0 : World) : Ret Tryz.prog 229 #[.agg #[.int .i64 (-9223372036854775808), .int .u64 0]] w0 fun v w' => v = wv great ∧ Only [] w0 w' := by
  have h := csize_ret (-170141183460469231731687303715884105728) (by decide) w0
  rw [show wv (-170141183460469231731687303715884105728) = .agg #[.int .i64 (-9223372036854775808), .int .u64 0] by kernel_rfl, show sizeW (-170141183460469231731687303715884105728) = great by decide] at h
  exact h
set_option maxHeartbeats 4000000 in
theorem carry_ret (cb sb : Nat) (run carr lag : Int) (w0 : World) (h : w0.heap[cb]? = some (coreO sb run carr)) (hc' : InW carr) (hl : InW lag) : Ret Tryz.prog 208 #[.pointer (some ⟨cb, 0, none⟩), wv lag] w0 fun v w' => w'.heap[cb]? = some (coreO sb run (carryW carr lag)) ∧ Only [cb] w0 w' := by
  have hs := (St.nil w0).track h (by simp)
  refine ret_of_xc Tryz.func208 (by kernel_rfl) rfl Tryz.ntmps208 rfl rfl rfl ?_
  repeat' (first|(refine bx hs (k:=?_);intro b w hz hs)|refine qRg ?_|refine Nx.h ?_|fail)
  refine dr [] hs (k := ?_); intro hX w hs
  refine tk 0 hX (k := ?_)
  refine tk 1 hX (k := ?_)
  refine tk 2 hX (k := ?_)
  refine tk 3 hX (k := ?_)
  refine tk 4 hX (k := ?_)
  refine pd0 11 4 hs (k := ?_); intro f X w hp; have hs := hp.st
  apply xa_pend 5 11 (f := f) (X := X) hX hp; exact rfl; exact rfl; (first | (apply makes_alloc tabOk; exact rfl) | (apply makes_slice tabOk; exact rfl; exact rfl; exact rfl; exact rfl; exact rfl; (intro X; ((repeat (first | exact Bld.nil | (apply Bld.one; exact rfl; (conv => lhs; whnf); exact rfl; (repeat (first | exact PutL.nil | apply PutL.skip | apply PutL.cons))) | (apply Bld.agg; exact rfl; exact rfl; exact rfl; (repeat (first | exact PutL.nil | apply PutL.skip | apply PutL.cons))))))))); kernel_rfl; kernel_rfl; kernel_rfl; kernel_rfl; (intro X Y; (repeat (first | exact pgg_base | refine pgg_step ?_ (by exact rfl)))); (intro w' hs; ((first | exact se_hold hs.hold | exact se_hold (hold_sim hs.hold rfl) | exact se_hold (hold_sim hs.hold.tail rfl) | exact se_hold (hR hs rfl) | exact se_hold hs.hold.tail | exact se_hold hs.hold.tail.tail | exact se_hold hs.hold.tail.tail.tail | exact se_done rfl))); intro f X w hp; have hs := hp.st
  refine bsP hp (k := ?_); intro b5 w5 _ hp; replace hs := hp.st
  repeat' (first|refine Nx.h ?_|fail)
  refine dn (k := ?_)
  apply xa_pend 6 11 (f := f) (X := X) hX hp; exact rfl; exact rfl; (first | (apply makes_alloc tabOk; exact rfl) | (apply makes_slice tabOk; exact rfl; exact rfl; exact rfl; exact rfl; exact rfl; (intro X; ((repeat (first | exact Bld.nil | (apply Bld.one; exact rfl; (conv => lhs; whnf); exact rfl; (repeat (first | exact PutL.nil | apply PutL.skip | apply PutL.cons))) | (apply Bld.agg; exact rfl; exact rfl; exact rfl; (repeat (first | exact PutL.nil | apply PutL.skip | apply PutL.cons))))))))); kernel_rfl; kernel_rfl; kernel_rfl; kernel_rfl; (intro X Y; (repeat (first | exact pgg_base | refine pgg_step ?_ (by exact rfl)))); (intro w' hs; ((first | exact se_hold hs.hold | exact se_hold (hold_sim hs.hold rfl) | exact se_hold (hold_sim hs.hold.tail rfl) | exact se_hold (hR hs rfl) | exact se_hold hs.hold.tail | exact se_hold hs.hold.tail.tail | exact se_hold hs.hold.tail.tail.tail | exact se_done rfl))); intro f X w hp; have hs := hp.st
  (with_reducible apply xs_call); exact rfl; exact rfl; exact carried_ret [lag] _ (fun i x e => by rcases i with _ | i; cases e; exact hl; simp at e) (by simp) _ (wat_1 (hs.get At.head))
  rintro v w' ⟨rfl, ho⟩; replace hp := hp.only ho; replace hs := hp.st; repeat' (first|refine Nx.h ?_|fail)
  refine dn (k := ?_)
  have hca := caF_in lag hl
  have eC : carryW carr lag = if InW (carr + caF 0 [lag]) then carr + caF 0 [lag] else great := rfl
  generalize caF 0 [lag] = y at *
  apply xa_pend 7 11 (f := f) (X := X) hX hp; exact rfl; exact rfl; (first | (apply makes_alloc tabOk; exact rfl) | (apply makes_slice tabOk; exact rfl; exact rfl; exact rfl; exact rfl; exact rfl; (intro X; ((repeat (first | exact Bld.nil | (apply Bld.one; exact rfl; (conv => lhs; whnf); exact rfl; (repeat (first | exact PutL.nil | apply PutL.skip | apply PutL.cons))) | (apply Bld.agg; exact rfl; exact rfl; exact rfl; (repeat (first | exact PutL.nil | apply PutL.skip | apply PutL.cons))))))))); kernel_rfl; kernel_rfl; kernel_rfl; kernel_rfl; (intro X Y; (repeat (first | exact pgg_base | refine pgg_step ?_ (by exact rfl)))); (intro w' hs; ((first | exact se_hold hs.hold | exact se_hold (hold_sim hs.hold rfl) | exact se_hold (hold_sim hs.hold.tail rfl) | exact se_hold (hR hs rfl) | exact se_hold hs.hold.tail | exact se_hold hs.hold.tail.tail | exact se_hold hs.hold.tail.tail.tail | exact se_done rfl))); intro f X w hp; have hs := hp.st
  (with_reducible apply xs_call); exact rfl; exact rfl; exact add_t carr y hc' hca _
  rintro v w' ⟨rfl, ho⟩; replace hp := hp.only ho; replace hs := hp.st; repeat' (first|refine Nx.h ?_|fail)
  refine dn (k := ?_)
  refine tk 8 hX (hc := by cases f <;> kernel_rfl) (k := ?_)
  refine tk 9 hX (hc := by cases f <;> kernel_rfl) (k := ?_)
  refine tk 10 hX (hc := by cases f <;> kernel_rfl) (k := ?_)
  apply xa_pendE 11 (f := f) (X := X) hX hp; exact rfl; (first | (apply makes_alloc tabOk; exact rfl) | (apply makes_slice tabOk; exact rfl; exact rfl; exact rfl; exact rfl; exact rfl; (intro X; ((repeat (first | exact Bld.nil | (apply Bld.one; exact rfl; (conv => lhs; whnf); exact rfl; (repeat (first | exact PutL.nil | apply PutL.skip | apply PutL.cons))) | (apply Bld.agg; exact rfl; exact rfl; exact rfl; (repeat (first | exact PutL.nil | apply PutL.skip | apply PutL.cons))))))))); kernel_rfl; kernel_rfl; (intro X Y; (repeat (first | exact pgg_base | refine pgg_step ?_ (by exact rfl)))); (intro w' hs; ((first | exact se_hold hs.hold | exact se_hold (hold_sim hs.hold rfl) | exact se_hold (hold_sim hs.hold.tail rfl) | exact se_hold (hR hs rfl) | exact se_hold hs.hold.tail | exact se_hold hs.hold.tail.tail | exact se_hold hs.hold.tail.tail.tail | exact se_done rfl))); intro b w hI hs
  refine dt 12 hX (k := ?_)
  repeat' (first|(refine stA hs (k:=?_);intro w hs)|refine Nx.h ?_|fail)
  refine dn (k := ?_)
  refine tk 13 hX (k := ?_)
  refine en (k := ?_)
  by_cases hi : InW (carr + y)
  · rw [if_pos hi] at eC
    rw [eC, decide_eq_true hi]
    rw [show tot (carr + y) = carr + y from if_pos hi] at hs ⊢
    repeat' (first|refine vs (k:=?_)|(refine stA hs (k:=?_);intro w hs)|refine qRg ?_|refine Nx.h ?_|refine qCf ?_|fail)
    first | refine rt' (vs := []) (hr := resOk_nil) (hq := ?_) | refine rt (vs := []) (hr := resOk_nil) (hq := ?_)
    exact ⟨hs.get (At.tail (At.tail (At.tail At.head))), hs.onlyF [cb] (by simp) (by simp [D0])⟩
  · rw [if_neg hi] at eC
    rw [eC, decide_eq_false hi]
    repeat' (first|refine vs (k:=?_)|refine qRg ?_|refine Nx.h ?_|refine qCt ?_|fail)
    (with_reducible apply xs_call); exact rfl; exact rfl; exact csize_min _
    rintro v w' ⟨rfl, ho⟩; replace hs := hs.call0 ho; repeat' (first|refine vs (k:=?_)|(refine stA hs (k:=?_);intro w hs)|refine qRg ?_|refine Nx.h ?_|fail)
    first | refine rt' (vs := []) (hr := resOk_nil) (hq := ?_) | refine rt (vs := []) (hr := resOk_nil) (hq := ?_)
    exact ⟨hs.get (At.tail (At.tail (At.tail At.head))), hs.onlyF [cb] (by simp) (by simp [D0])⟩
end Go.Proofs.YtilajmcellffiaaGreatDoorX

namespace Go.Proofs.YtilajmcellffiaaGreatDoorX
open Go Go.RowKit
attribute [local irreducible] XS XC XA thenE blockE retE loopE loopS cutB cutN doneE SE
structure Pr where
  id : Int
  ns : Int
  done : Bool
deriving DecidableEq
abbrev Pr.cells (p : Pr) : List Value := [.int .i64 p.id, .int .u64 p.ns, .bool p.done]
def flatPr (l : List Pr) : List Value := (l.map Pr.cells).flatten
structure Rp where
  g : List Gn
  p : List Pr
def Rp.none : Rp := ⟨[], []⟩
abbrev SlG (w : World) (v : Value) (l : List Gn) (G : List Nat) : Prop := SlV w 140 13 v l.length (flatG l) G
abbrev SlP (w : World) (v : Value) (l : List Pr) (G : List Nat) : Prop := SlV w 232 3 v l.length (flatPr l) G
abbrev repO (vg vp : Value) : Obj := .cells #[vg, vp] 226 (0, 0)
def RpAt (w : World) (rb : Nat) (r : Rp) (F : List Nat) : Prop := ∃ vg vp Gg Gp, F = rb :: (Gg ++ Gp) ∧ w.heap[rb]? = some (repO vg vp) ∧ SlG w vg r.g Gg ∧ SlP w vp r.p Gp
theorem slv_ne {w : World} {e k n : Nat} {v : Value} {xs : List Value} {G : List Nat} (h : SlV w e k v n xs G) {b : Nat} {cs : Array Value} {ty : Nat} {fz : Nat × Nat} (hb : w.heap[b]? = some (.cells cs ty fz)) (hne : ty ≠ e) : b ∉ G := fun hm => by
  rcases h with ⟨_, _, _, rfl⟩ | ⟨g, cap, cur, _, rfl, _, _, _, _, hg⟩
  · cases hm
  · obtain rfl := List.mem_singleton.1 hm
    exact blocks_ne hb hg hne rfl
theorem slv_at {w : World} {e k n : Nat} {v : Value} {xs : List Value} {G : List Nat} (h : SlV w e k v n xs G) : ∀ b ∈ G, ∃ cs, w.heap[b]? = some (.cells cs e (0, 0)) := fun b hb => by
  rcases h with ⟨_, _, _, rfl⟩ | ⟨g, cap, cur, _, rfl, _, _, _, _, hg⟩
  · cases hb
  · obtain rfl := List.mem_singleton.1 hb; exact ⟨_, hg⟩
theorem slv_form {w : World} {e k n : Nat} {v : Value} {xs : List Value} {G : List Nat} (h : SlV w e k v n xs G) : ∃ ad cap, v = .slice ad n cap := by
  rcases h with ⟨rfl, rfl, _⟩ | ⟨g, cap, cur, rfl, _⟩
  · exact ⟨_, _, rfl⟩
  · exact ⟨_, _, rfl⟩
theorem slv_two {w : World} {e k n e' k' n' : Nat} {v v' : Value} {xs xs' : List Value} {G G' : List Nat} (h : SlV w e k v n xs G) (h' : SlV w e' k' v' n' xs' G') (hne : e ≠ e') : ∀ b ∈ G, b ∉ G' := fun b hb => by
  obtain ⟨cs, hc⟩ := slv_at h b hb
  exact slv_ne h' hc hne
theorem slv_core {w : World} {e k n : Nat} {v : Value} {xs : List Value} {G : List Nat} (h : SlV w e k v n xs G) {cb : Nat} {c : Cs} {F : List Nat} (hc : CAt w cb c F) (ho : okC (.cells #[] e (0, 0)) = true) : ∀ b ∈ G, b ∉ F := fun b hb => by
  obtain ⟨cs, hb'⟩ := slv_at h b hb
  exact hc.not hb' ho
theorem RpAt.keepD {w w' : World} {rb : Nat} {r : Rp} {F G : List Nat} (h : RpAt w rb r F) (ho : Only G w w') (hd : ∀ k ∈ F, k ∉ G) : RpAt w' rb r F := by
  obtain ⟨vg, vp, Gg, Gp, rfl, h1, h2, h3⟩ := h
  exact ⟨vg, vp, Gg, Gp, rfl, ho.block h1 (hd rb (by simp)), h2.keep ho (fun k hk => hd k (by simp [hk])), h3.keep ho (fun k hk => hd k (by simp [hk]))⟩
theorem RpAt.only {w w' : World} {rb : Nat} {r : Rp} {F : List Nat} (h : RpAt w rb r F) (ho : Only [] w w') : RpAt w' rb r F := h.keepD ho (by simp)
theorem RpAt.apart {w : World} {rb : Nat} {r : Rp} {F : List Nat} (h : RpAt w rb r F) {cb : Nat} {c : Cs} {Fc : List Nat} (hc : CAt w cb c Fc) : ∀ k ∈ F, k ∉ Fc := fun k hk => by
  obtain ⟨vg, vp, Gg, Gp, rfl, h1, h2, h3⟩ := h
  simp only [List.mem_cons, List.mem_append] at hk
  rcases hk with rfl | hk | hk
  · exact hc.not h1 rfl
  · exact slv_core h2 hc rfl k hk
  · exact slv_core h3 hc rfl k hk
theorem RpAt.lt {w : World} {rb : Nat} {r : Rp} {F : List Nat} (h : RpAt w rb r F) : ∀ k ∈ F, k < w.heap.size := fun k hk => by
  obtain ⟨vg, vp, Gg, Gp, rfl, h1, h2, h3⟩ := h
  simp only [List.mem_cons, List.mem_append] at hk
  rcases hk with rfl | hk | hk
  · exact lt_of_block h1
  · exact h2.lt k hk
  · exact h3.lt k hk
def carryL (x : Int) (l : List Gn) : Int := l.foldl (fun x g => carryW x g.lag) x
theorem carryL_in {x : Int} (hx : InW x) : ∀ {l : List Gn}, InW (carryL x l) := fun {l} => by
  induction l generalizing x with
  | nil => exact hx
  | cons g l ih => exact ih (carryW_in _ _)
theorem carryL_snoc (x : Int) (l : List Gn) (g : Gn) : carryL x (l ++ [g]) = carryW (carryL x l) g.lag := by unfold carryL; rw [List.foldl_append]; rfl
def goneC (c : Cs) : List Gn := (flushA c.A).1
def setC (c : Cs) : Cs := ⟨(flushA c.A).2, run1 c.A, carryL c.carr (goneC c)⟩
theorem lagR_in {s : Ss} {A : As} (h : Rep s A) {a : RT} (ha : a ∈ A.l) : InW (lagR A a) := by
  have h1 := h.over ha
  unfold lagR
  have := (h.cen (List.ne_nil_of_mem ha)).a0
  have := (h.cen (List.ne_nil_of_mem ha)).a1
  rw [← h1.2.2]
  exact div_in h1.2.1 (by omega)
theorem lagA_in {s : Ss} {A : As} (h : Rep s A) (id : Int) : InW (lagA A id) := by
  unfold lagA
  cases e : findR A.l id with
  | none => exact inW0
  | some a => exact lagR_in h (findR_some e).1
theorem gone_in : ∀ {n : Nat} {s : Ss} {A : As}, Rep s A → ∀ g ∈ (flushN n A).1, InW g.lag
  | 0, _, _, _, g, hg => by cases hg
  | n + 1, s, A, h, g, hg => by
    unfold flushN at hg
    cases e : A.l.find? (goesA A) with
    | none => rw [e] at hg; cases hg
    | some a =>
      rw [e] at hg
      have ha := List.mem_of_find?_eq_some e
      rcases List.mem_cons.1 hg with rfl | hg
      · exact lagR_in h ha
      · exact gone_in (h.exit (findR_at h.o ha)).2.2 g hg
theorem gone_len : ∀ n B, (flushN n B).1.length ≤ n
  | 0, B => Nat.le_refl _
  | n + 1, B => by
    unfold flushN
    cases B.l.find? (goesA B) with
    | none => exact Nat.zero_le _
    | some a => simp only [List.length_cons]; have := gone_len n (extA B (idR a)); omega
theorem flatG_one (g : Gn) : ∀ u ∈ g.cells, u.oneCell' = true := fun u hu => by
  simp only [List.mem_cons, List.not_mem_nil, or_false] at hu
  rcases hu with rfl | rfl | rfl | rfl | rfl | rfl | rfl | rfl | rfl | rfl | rfl | rfl | rfl <;> rfl
theorem flatG_cells {l : List Gn} : ∀ u ∈ flatG l, u.oneCell' = true := fun u hu => by
  obtain ⟨cs, h1, h2⟩ := List.mem_flatten.1 hu
  obtain ⟨g, _, rfl⟩ := List.mem_map.1 h1
  exact flatG_one g u h2
theorem soonId_in {A : As} {s : Ss} (h : Rep s A) : In64 (run1 A) := by
  unfold run1 soonId'
  obtain ⟨s', _, k⟩ := h.flush
  cases soonA (flushA A).2 with
  | none => exact in640
  | some a => exact a.2.1.2.1
theorem run1_in {w : World} {cb : Nat} {c : Cs} {F : List Nat} (h : CAt w cb c F) : In64 (run1 c.A) := by
  obtain ⟨⟨s, hr⟩, _⟩ := h.rep
  exact soonId_in hr
set_option maxHeartbeats 4000000 in
theorem csettle_ret (cb rb : Nat) (c : Cs) (r : Rp) (F Fr : List Nat) (w0 : World) (h : CAt w0 cb c F) (hr : RpAt w0 rb r Fr) (hm : r.g.length ≤ 1000000) :
    Ret Tryz.prog 227 #[.pointer (some ⟨cb, 0, none⟩), .pointer (some ⟨rb, 0, none⟩)] w0 fun v w' => ∃ F' Fr', CAt w' cb (setC c) F' ∧ RpAt w' rb ⟨r.g ++ goneC c, r.p⟩ Fr' ∧ (∀ k ∈ F', k ∈ F ∨ w0.heap.size ≤ k) ∧ (∀ k ∈ Fr', k ∈ Fr ∨ w0.heap.size ≤ k) ∧ Only (F ++ Fr) w0 w' := by
  have hC := h
  have hap := hr.apart h
  have hrl := hr.lt
  obtain ⟨⟨s, hrep⟩, hcin⟩ := h.rep
  have hrun := run1_in h
  obtain ⟨sb, Fs, rfl, h1, h2, h3⟩ := h
  have hnod := CAt.nod h1 h2
  have hs := (St.nil w0).track h1 (by simp)
  refine ret_of_xc Tryz.func227 (by kernel_rfl) rfl Tryz.ntmps227 rfl rfl rfl ?_
  repeat' (first|refine vs (k:=?_)|refine qRg ?_|refine Nx.h ?_|fail)
  have ho := hs.onlyF [] (by simp [h1]) (by simp [D0])
  have hz := ho.size
  (with_reducible apply xs_call); exact rfl; exact rfl; exact asettle_ret sb c.A Fs _ (h2.only ho)
  rintro v w1 ⟨sl, rfl, ⟨G, hG, hGn⟩, F1, hS1, hF1, ho1⟩
  have hle := gone_len c.A.l.length c.A
  have hlen : (goneC c).length ≤ 1000000 := by have := hrep.le; show (flushN _ _).1.length ≤ _; omega
  have hgi : ∀ g ∈ goneC c, InW g.lag := gone_in hrep
  have c1 := ho1.block (hs.get At.head) hnod
  have hoA : Only (cb :: Fs) w0 w1 := (ho.weaken (by simp)).step ho1 (fun k hk => .inl (by simp [hk]))
  have hz1 := ho1.size
  have hr1 := hr.keepD hoA hap
  have hG' : SlG w1 sl (goneC c) G := hG
  have eset : setC c = ⟨(flushA c.A).2, run1 c.A, carryL c.carr (goneC c)⟩ := rfl
  generalize hgo : goneC c = go at *
  have hD : LsAt w1 140 13 sl (go.map Gn.cells) := hG'.ls rfl (by simp) (fun x hx => by obtain ⟨g, _, rfl⟩ := List.mem_map.1 hx; rfl)
  obtain ⟨ad, cap, rfl, hD⟩ := hD
  rw [List.length_map] at *
  clear hs
  have hs := (St.nil w1).track c1 (by simp)
  repeat' (first|refine vs (k:=?_)|refine qRg ?_|refine Nx.h ?_|fail)
  refine xc_cutB (fun (_ : Unit) => [(0, .pointer (some ⟨cb, 0, none⟩)), (1, .pointer (some ⟨rb, 0, none⟩)), (4, .slice ad go.length cap), (5, .int .i64 (run1 c.A))]) (fun _ w => w.heap[cb]? = some (coreO sb c.run (carryL c.carr go)) ∧ Only [cb] w1 w) ?_ ?_
  · refine xc_loopS (fun (i : Nat) => [(0, .pointer (some ⟨cb, 0, none⟩)), (1, .pointer (some ⟨rb, 0, none⟩)), (4, .slice ad go.length cap), (5, .int .i64 (run1 c.A)), (16, .slice ad go.length cap), (17, .int .i64 (go.length : Nat)), (18, .int .i64 (i : Nat))])
      (fun i w => i ≤ go.length ∧ w.heap[cb]? = some (coreO sb c.run (carryL c.carr (go.take i))) ∧ Only [cb] w1 w) (fun i => go.length - i) 0 (by (repeat (first | exact agree_nil | (apply agree_cons; exact rfl)))) ⟨Nat.zero_le _, hs.get At.head, hs.onlyF [cb] (by simp) (by simp [D0])⟩ fun i env wl ⟨hi, hcb, ho0⟩ => ?_
    clear hs
    have hs := (St.nil wl).track hcb (by simp)
    repeat' (first|refine vs (k:=?_)|refine qRg ?_|refine Nx.h ?_|(refine xc_if rfl (fun hc=>?_) (fun hc=>?_))|fail)
    · have hlt : i < go.length := by omega
      obtain ⟨b, off, cs, fz, rfl, _, hb, hcs⟩ := hD (fun h => by have := congrArg List.length h; rw [List.length_map, List.length_nil] at this; omega)
      have hpk := hcs i (Gn.cells go[i]) (by rw [List.getElem?_map, List.getElem?_eq_getElem hlt]; rfl)
      have ei := nx64 (m := go.length) hlt (by omega)
      have et : carryL c.carr (go.take (i + 1)) = carryW (carryL c.carr (go.take i)) go[i].lag := by rw [take_next hlt, carryL_snoc]
      have hq := hgi go[i] (List.getElem_mem hlt)
      have hin : InW (carryL c.carr (go.take i)) := carryL_in hcin
      generalize go[i] = q at *
      have hbl := ho0.block hb (by simp; exact blocks_ne hb c1 (by decide))
      refine ix (h0 := (by omega)) (h1 := (by omega)) (k := ?_)
      refine lhK hbl hpk (k := ?_)
      repeat' (first|refine vs (k:=?_)|(refine stA hs (k:=?_);intro w hs)|(refine al hs (k:=?_);intro b w hz hs)|refine qRg ?_|refine Nx.h ?_|fail)
      (with_reducible apply xs_call); exact rfl; exact rfl; exact carry_ret cb sb c.run _ q.lag _ (hs.get (At.tail At.head)) hin hq
      rintro v w4 ⟨hc4, ho4⟩
      have hoB := hs.onlyF [cb] (by simp) (by simp [D0])
      clear hs
      have hs := St.nil w4
      repeat' (first|refine vs (k:=?_)|refine qRg ?_|refine Nx.h ?_|fail)
      exact loopS_next (i + 1) (by show go.length - (i + 1) < go.length - i; omega) (by (repeat (first | exact agree_nil | (apply agree_cons; first | exact rfl | exact congrArg (Value.int .i64) ei)))) ⟨by show i + 1 ≤ _; omega, by simp only [et]; exact (hs.only0 rfl).block hc4 (by simp), ((ho0.step hoB (fun k hk => .inl hk)).step ho4 (fun k hk => .inl hk)).step (hs.only0 rfl) (by simp)⟩
    · have e : i = go.length := by omega
      subst e
      rw [List.take_length] at hcb
      exact cutB_exit () (by (repeat (first | exact agree_nil | (apply agree_cons; exact rfl)))) ⟨hcb, ho0⟩
  · rintro _ env w2 ⟨hcb, ho2⟩
    clear hs
    have hz2 := ho2.size
    have hcl := lt_of_block c1
    have hcr : ∀ k ∈ Fr, k ∉ [cb] := fun k hk hm => hap k hk (by obtain rfl := List.mem_singleton.1 hm; exact List.mem_cons_self)
    have hr2 := hr1.keepD ho2 hcr
    have hG2 := hG'.keep ho2 (fun k hk hm => by obtain rfl := List.mem_singleton.1 hm; exact slv_ne hG' c1 (by decide) hk)
    have hS2 := hS1.keepD ho2 (fun k hk hm => by obtain rfl := List.mem_singleton.1 hm; exact CAt.nod c1 hS1 hk)
    obtain ⟨vg, vp, Gg, Gp, rfl, r1, r2, r3⟩ := hr2
    have hrb : rb ≠ cb := blocks_ne r1 hcb (by decide)
    have hs := ((St.nil w2).track hcb (by simp)).track r1 (by simpa using hrb)
    repeat' (first|refine vs (k:=?_)|refine qRg ?_|refine Nx.h ?_|fail)
    refine xs_appendL tabOk rfl rfl rfl rfl rfl rfl flatG_cells r2 hG2 (by omega) (by omega) ?_
    intro v3 w3 ⟨G3, hG3, hG3n⟩ ho3
    obtain ⟨ad3, cp3, rfl⟩ := slv_form hG3
    have n1 := slv_ne r2 hcb (by decide)
    have n2 := slv_ne r2 r1 (by decide)
    have k1 := ho3.block hcb n1
    have k2 := ho3.block r1 n2
    have hP3 := r3.keep ho3 (slv_two r3 r2 (by decide))
    have hz3 := ho3.size
    have hS3 := hS2.keepD ho3 (fun k hk hm => by
      obtain ⟨cs, hc⟩ := slv_at r2 k hm
      exact hS2.not hc rfl hk)
    clear hs
    have hs := ((St.nil w3).track k1 (by simp)).track k2 (by simpa using hrb)
    repeat' (first|refine vs (k:=?_)|(refine st hs (k:=?_);intro w hs)|refine qRg ?_|refine Nx.h ?_|fail)
    first | refine rt' (vs := []) (hr := resOk_nil) (hq := ?_) | refine rt (vs := []) (hr := resOk_nil) (hq := ?_)
    have ho4 : Only [cb, rb] w3 _ := hs.onlyF [cb, rb] (by simp) (by simp [D0])
    have f1 := hs.get At.head
    have f2 := hs.get (At.tail At.head)
    have hG3' : SlG w3 (.slice ad3 (r.g.length + go.length) cp3) (r.g ++ go) G3 := by unfold SlG; rw [List.length_append, show flatG (r.g ++ go) = flatG r.g ++ flatG go by simp [flatG]]; exact hG3
    have d1 : ∀ k ∈ G3, k ∉ [cb, rb] := fun k hk hm => by
      simp only [List.mem_cons, List.not_mem_nil, or_false] at hm
      rcases hm with rfl | rfl
      · exact slv_ne hG3' k1 (by decide) hk
      · exact slv_ne hG3' k2 (by decide) hk
    have d2 : ∀ k ∈ Gp, k ∉ [cb, rb] := fun k hk hm => by
      simp only [List.mem_cons, List.not_mem_nil, or_false] at hm
      rcases hm with rfl | rfl
      · exact slv_ne hP3 k1 (by decide) hk
      · exact slv_ne hP3 k2 (by decide) hk
    have d3 : ∀ k ∈ F1, k ∉ [cb, rb] := fun k hk hm => by
      simp only [List.mem_cons, List.not_mem_nil, or_false] at hm
      rcases hm with rfl | rfl
      · exact CAt.nod k1 hS3 hk
      · exact hS3.not k2 rfl hk
    have hsz := hoA.size
    rw [eset]
    refine ⟨cb :: F1, rb :: (G3 ++ Gp), ⟨sb, F1, rfl, f2, hS3.keepD ho4 d3, carryL_in hcin, hrun⟩, ⟨_, vp, G3, Gp, rfl, f1, hG3'.keep ho4 d1, hP3.keep ho4 d2⟩, fun k hk => ?_, fun k hk => ?_, ?_⟩
    · rcases List.mem_cons.1 hk with rfl | hk
      · simp
      · rcases hF1 k hk with h | h
        · simp [h]
        · exact .inr (by omega)
    · simp only [List.mem_cons, List.mem_append] at hk ⊢
      rcases hk with rfl | hk | hk
      · simp
      · rcases hG3n k hk with h | h
        · simp [h]
        · exact .inr (by omega)
      · simp [hk]
    · refine (((hoA.weaken (by simp; intro k hk; simp [hk])).step ho2 (fun k hk => .inl (by simp at hk; simp [hk]))).step ho3 (fun k hk => .inl (by simp [hk]))).step ho4 (fun k hk => .inl (by simp at hk; simp; rcases hk with h | h <;> simp [h]))
end Go.Proofs.YtilajmcellffiaaGreatDoorX

namespace Go.Proofs.YtilajmcellffiaaGreatDoorX
open Go Go.RowKit
attribute [local irreducible] XS XC XA thenE blockE retE loopE loopS cutB cutN doneE SE
def RvAt (w : World) (v : Value) (r : Rp) : Prop := ∃ vg vp Gg Gp, v = .agg #[vg, vp] ∧ SlG w vg r.g Gg ∧ SlP w vp r.p Gp
def DoAt (w0 w : World) (fid : Nat) (caps : List Value) (E : List Nat) (Qx : World → Prop) (c : Cs) (e : Int) (c1 : Cs) (r1 : Rp) : Prop :=
  ∀ cb rb F, CAt w cb c F → RpAt w rb .none [rb] → (∀ k ∈ F, w0.heap.size ≤ k) → w0.heap.size ≤ rb →
    Ret Tryz.prog fid (.pointer (some ⟨cb, 0, none⟩) :: .pointer (some ⟨rb, 0, none⟩) :: caps).toArray w fun v w' => v = .int .i64 e ∧ Qx w' ∧
      (e = 0 → ∃ F2 Fr, CAt w' cb c1 F2 ∧ RpAt w' rb r1 Fr ∧ (∀ k ∈ F2, k ∈ F ∨ w.heap.size ≤ k) ∧ (∀ k ∈ Fr, k = rb ∨ w.heap.size ≤ k)) ∧ Only (rb :: F ++ E) w w'
def tryC (c : Cs) (e : Int) (c1 : Cs) : Cs := if e = 0 then setC c1 else c
def tryR (e : Int) (c1 : Cs) (r1 : Rp) : Rp := if e = 0 then ⟨r1.g ++ goneC c1, r1.p⟩ else .none
set_option maxHeartbeats 8000000 in
theorem try_ret (cb : Nat) (c : Cs) (F : List Nat) (w0 : World) (h : CAt w0 cb c F) (fid : Nat) (caps : List Value) (E : List Nat) (Qx : World → Prop) (e : Int) (c1 : Cs) (r1 : Rp)
    (hQ : ∀ w w' G, Qx w → Only G w w' → (∀ k ∈ E, k ∉ G) → Qx w') (hE : ∀ k ∈ E, k ∉ F ∧ k < w0.heap.size) (hr : r1.g.length ≤ 1000000) (hdo : ∀ w, Only [] w0 w → DoAt w0 w fid caps E Qx c e c1 r1) :
    Ret Tryz.prog 203 #[.pointer (some ⟨cb, 0, none⟩), .func (.func fid) #[] caps.toArray] w0 fun v w' => ∃ rv, v = .tuple #[rv, .int .i64 e] ∧ Qx w' ∧ RvAt w' rv (tryR e c1 r1) ∧
      (∃ F', CAt w' cb (tryC c e c1) F' ∧ ∀ k ∈ F', k ∈ F ∨ w0.heap.size ≤ k) ∧ Only (cb :: E) w0 w' := by
  have hC := h
  obtain ⟨sb, Fs, rfl, h1, h2, h3⟩ := h
  have hs := (St.nil w0).track h1 (by simp)
  have lcb := lt_of_block h1
  refine ret_of_xc Tryz.func203 (by kernel_rfl) rfl Tryz.ntmps203 rfl rfl rfl ?_
  refine xc_seq ?_
  refine xc_region ?_ ?_; exact rfl
  refine al hs (k := ?_); intro b4 w hz hs
  have g4 := hs.new (b4, true) (by simp) rfl
  simp only at g4
  repeat' (first|refine vs (k:=?_)|(refine al hs (k:=?_);intro b w hz hs)|refine qRg ?_|refine Nx.h ?_|refine qCf ?_|fail)
  have gb := hs.new _ List.mem_cons_self rfl
  simp only at gb
  have ho := hs.onlyF [] (by simp [h1]) (by simp [D0])
  (with_reducible apply xs_call); exact rfl; exact rfl; exact cclone_ret cb c _ _ (hC.only ho)
  rintro v w1 ⟨⟨cb', F', rfl, hC1, hF'⟩, ho1⟩; replace hs := hs.call0 ho1
  have hz1 := ho.size
  have hoA := hs.onlyF [] (by simp [h1]) (by simp [D0])
  have k1 := hs.get At.head
  have k2 := hs.get (At.tail At.head)
  have k3 := hs.get (At.tail (At.tail At.head))
  have n4b : b ≠ b4 := by have := hs.nd; simp only [List.map_cons, List.nodup_cons, List.mem_cons, not_or] at this; exact this.1.1
  have hF0 : ∀ k ∈ F', w0.heap.size ≤ k := fun k hk => by have := hF' k hk; omega
  clear hs
  have hs := (((St.nil w1).track k3 (by simp)).track k2 (by simp; omega)).track k1 (by simp [n4b]; omega)
  repeat' (first|refine vs (k:=?_)|refine qRg ?_|refine Nx.h ?_|fail)
  have ho2 := hs.onlyF [] (by simp [k1, k2, k3]) (by simp [D0])
  have hC2 := hC1.only ho2
  have kb := hs.get At.head
  have hR : RpAt _ b .none [b] := ⟨_, _, [], [], rfl, kb, .inl ⟨rfl, rfl, rfl, rfl⟩, .inl ⟨rfl, rfl, rfl, rfl⟩⟩
  have hz2 := hoA.size
  have hz3 := ho2.size
  (with_reducible apply xs_call); exact rfl; exact rfl; exact hdo _ (hoA.trans ho2) cb' b F' hC2 hR hF0 gb
  rintro v w3 ⟨rfl, hX, hres, ho3⟩
  have m1 : cb ∉ b :: F' ++ E := fun hm => by
    simp only [List.cons_append, List.mem_cons, List.mem_append] at hm
    rcases hm with rfl | hm | hm
    · omega
    · have := hF0 cb hm; omega
    · exact (hE cb hm).1 (by simp)
  have m2 : b4 ∉ b :: F' ++ E := fun hm => by
    simp only [List.cons_append, List.mem_cons, List.mem_append] at hm
    rcases hm with rfl | hm | hm
    · exact n4b rfl
    · exact hC2.not (hs.get (At.tail At.head)) rfl hm
    · have := (hE b4 hm).2; omega
  have j2 := ho3.block (hs.get (At.tail At.head)) m2
  have j3 := ho3.block (hs.get (At.tail (At.tail At.head))) m1
  have hoB : Only (cb :: E) w0 w3 := ((hoA.trans ho2).weaken (by simp)).step ho3 (fun k hk => by
    simp only [List.cons_append, List.mem_cons, List.mem_append] at hk ⊢
    rcases hk with rfl | hk | hk
    · exact .inr gb
    · exact .inr (hF0 k hk)
    · exact .inl (.inr hk))
  have hzB := hoB.size
  clear hs
  have hs := ((St.nil w3).track j3 (by simp)).track j2 (by simp; omega)
  by_cases he : e = 0
  · subst he
    obtain ⟨F2, Fr, hC3, hR3, hF2, hFr⟩ := hres rfl
    repeat' (first|refine vs (k:=?_)|refine qRg ?_|refine Nx.h ?_|refine qCf ?_|fail)
    have ho4 := hs.onlyF [] (by simp [j2, j3]) (by simp [D0])
    have hC4 := hC3.only ho4
    have hR4 := hR3.only ho4
    have hz4 := ho4.size
    have hF2' : ∀ k ∈ F2, w0.heap.size ≤ k := fun k hk => by
      rcases hF2 k hk with h | h
      · exact hF0 k h
      · omega
    have hFr' : ∀ k ∈ Fr, w0.heap.size ≤ k := fun k hk => by
      rcases hFr k hk with rfl | h
      · exact gb
      · omega
    have hm4 : b4 ∉ F2 ++ Fr := fun hm => by
      rcases List.mem_append.1 hm with h | h
      · exact hC4.not (hs.get At.head) rfl h
      · rcases hFr b4 h with h | h
        · exact n4b h.symm
        · have := lt_of_block k2; omega
    have hmc : cb ∉ F2 ++ Fr := fun hm => by
      rcases List.mem_append.1 hm with h | h
      · have := hF2' cb h; omega
      · have := hFr' cb h; omega
    (with_reducible apply xs_call); exact rfl; exact rfl; exact csettle_ret cb' b c1 r1 F2 Fr _ hC4 hR4 hr
    rintro v w5 ⟨F5, Fr5, hC5, hR5, hF5, hFr5, ho5⟩
    have i2 := ho5.block (hs.get At.head) hm4
    have i3 := ho5.block (hs.get (At.tail At.head)) hmc
    have hoC : Only (cb :: E) w0 w5 := (hoB.step ho4 (by simp)).step ho5 (fun k hk => by
      rcases List.mem_append.1 hk with h | h
      · exact .inr (hF2' k h)
      · exact .inr (hFr' k h))
    have hX5 := hQ _ _ _ (hQ _ _ _ hX ho4 (by simp)) ho5 (fun k hk hm => by
      have := (hE k hk).2
      rcases List.mem_append.1 hm with h | h
      · have := hF2' k h; omega
      · have := hFr' k h; omega)
    have hF5' : ∀ k ∈ F5, w0.heap.size ≤ k := fun k hk => by
      rcases hF5 k hk with h | h
      · exact hF2' k h
      · omega
    have hap := hR5.apart hC5
    obtain ⟨sb5, Fs5, rfl, q1, q2, q3, q4⟩ := hC5
    obtain ⟨vg, vp, Gg, Gp, rfl, p1, p2, p3⟩ := hR5
    obtain ⟨ag, cg, rfl⟩ := slv_form p2
    obtain ⟨ap, cp, rfl⟩ := slv_form p3
    have e1 : b ≠ cb' := blocks_ne p1 q1 (by decide)
    have e2 : b4 ≠ cb' := blocks_ne i2 q1 (by decide)
    have e3 : cb ≠ cb' := by have := hF5' cb' (by simp); omega
    have e4 : b4 ≠ cb := by omega
    have e5 : b ≠ cb := by omega
    clear hs
    have hs := ((((St.nil w5).track q1 (by simp)).track i3 (by simpa using e3)).track i2 (by simp [e2, e4])).track p1 (by simp [e1, e5, n4b])
    repeat' (first|refine vs (k:=?_)|(refine stA hs (k:=?_);intro w hs)|refine qRg ?_|refine Nx.h ?_|fail)
    first | refine rt (hq := ?_) | refine rt' (hq := ?_)
    have ho6 : Only [cb, b4] w5 _ := hs.onlyF [cb, b4] (by simp [q1, p1]) (by simp [D0])
    have f1 := hs.get (At.tail (At.tail At.head))
    have d1 : ∀ k ∈ Gg, k ∉ [cb, b4] := fun k hk hm => by
      simp only [List.mem_cons, List.not_mem_nil, or_false] at hm
      rcases hm with rfl | rfl
      · exact slv_ne p2 i3 (by decide) hk
      · exact slv_ne p2 i2 (by decide) hk
    have d2 : ∀ k ∈ Gp, k ∉ [cb, b4] := fun k hk hm => by
      simp only [List.mem_cons, List.not_mem_nil, or_false] at hm
      rcases hm with rfl | rfl
      · exact slv_ne p3 i3 (by decide) hk
      · exact slv_ne p3 i2 (by decide) hk
    have d3 : ∀ k ∈ Fs5, k ∉ [cb, b4] := fun k hk hm => by
      simp only [List.mem_cons, List.not_mem_nil, or_false] at hm
      rcases hm with rfl | rfl
      · exact q2.not i3 rfl hk
      · exact q2.not i2 rfl hk
    refine ⟨_, rfl, hQ _ _ _ hX5 ho6 (fun k hk hm => ?_), ⟨_, _, Gg, Gp, rfl, p2.keep ho6 d1, p3.keep ho6 d2⟩, ⟨cb :: Fs5, ⟨sb5, Fs5, rfl, f1, q2.keepD ho6 d3, q3, q4⟩, fun k hk => ?_⟩, hoC.step ho6 (fun k hk => ?_)⟩
    · have := hE k hk
      simp only [List.mem_cons, List.not_mem_nil, or_false] at hm
      rcases hm with rfl | rfl
      · exact this.1 (by simp)
      · omega
    · rcases List.mem_cons.1 hk with rfl | hk
      · simp
      · exact .inr (hF5' k (by simp [hk]))
    · simp only [List.mem_cons, List.not_mem_nil, or_false] at hk
      rcases hk with rfl | rfl
      · simp
      · exact .inr (by omega)
  · rw [show tryR e c1 r1 = .none from if_neg he, show tryC c e c1 = c from if_neg he]
    repeat' (first|refine vs (k:=?_)|(refine stA hs (k:=?_);intro w hs)|refine qRg ?_|refine Nx.h ?_|(refine xc_cond rfl (fun hc=>?_) (fun hc=>?_))|fail)
    · first | refine rt (hq := ?_) | refine rt' (hq := ?_)
      have ho6 : Only [b4] w3 _ := hs.onlyF [b4] (by simp [j3]) (by simp [D0])
      refine ⟨_, rfl, hQ _ _ _ hX ho6 (fun k hk hm => by have := (hE k hk).2; obtain rfl := List.mem_singleton.1 hm; omega), ⟨_, _, [], [], rfl, .inl ⟨rfl, rfl, rfl, rfl⟩, .inl ⟨rfl, rfl, rfl, rfl⟩⟩, ⟨cb :: Fs, ?_, fun k hk => .inl hk⟩, hoB.step ho6 (fun k hk => .inr (by obtain rfl := List.mem_singleton.1 hk; exact g4))⟩
      have hlt := hC.lt
      refine ((hC.only (hoA.trans ho2)).keepD ho3 (fun k hk hm => ?_)).keepD ho6 (fun k hk hm => by have := hlt k hk; obtain rfl := List.mem_singleton.1 hm; omega)
      have := hlt k hk
      simp only [List.cons_append, List.mem_cons, List.mem_append] at hm
      rcases hm with rfl | hm | hm
      · omega
      · have := hF0 k hm; omega
      · exact (hE k hm).1 hk
    · exact absurd (by simpa using hc) he
end Go.Proofs.YtilajmcellffiaaGreatDoorX

namespace Go.Proofs.YtilajmcellffiaaGreatDoorX
open Go Go.RowKit
attribute [local irreducible] XS XC XA thenE blockE retE loopE loopS cutB cutN doneE SE
def tyNe (ty : Nat) : Obj → Bool
  | .cells _ t _ => !(Nat.beq t ty)
  | _ => true
theorem St.trackT {wb w : World} {D : Ctx} {H : List Ent} (h : St wb D H w) {b : Nat} {cs : Array Value} {ty : Nat} {fz : Nat × Nat} (hb : w.heap[b]? = some (.cells cs ty fz)) (hn : (H.all fun e => tyNe ty e.2.1) = true := by rfl) (hr : b ∉ D.ro.map (·.1) := by simp [D0]) : St wb D ((b, .cells cs ty fz, false) :: H) w :=
  h.track hb (fun hm => by
    obtain ⟨e, he, rfl⟩ := List.mem_map.1 hm
    have h1 := List.all_eq_true.1 hn e he
    have h2 := h.at_ e he
    rw [hb] at h2
    rw [← Option.some.inj h2] at h1
    simp [tyNe] at h1) hr
theorem plM_nil {m : Mn} (h1 : m.a = 0) (h2 : m.w = 0) (h3 : m.n = 0) (c q lag : Int) : plM m c q lag = plM .zero c q lag := by
  have r1 : m.right = true := mright_iff.2 (.inl ⟨h3, h2, h1⟩)
  have r2 : Mn.zero.right = true := by decide
  unfold plM
  rw [r1, r2, h3, show Mn.zero.n = 0 from rfl, if_pos (rfl : (0 : Int) = 0), if_pos (rfl : (0 : Int) = 0)]
theorem SetAt.mean {w : World} {sb : Nat} {A : As} {F : List Nat} (h : SetAt w sb A F) : ∃ qb mb m tb mb' cq, w.heap[sb]? = some (setO qb mb) ∧ w.heap[qb]? = some (queueO m tb mb' cq) ∧ m.In ∧ QuAt w qb A ∧ (∀ c q lag, plM m c q lag = plM (mA A) c q lag) ∧ (A.l ≠ [] → m = mA A) ∧ sb ∈ F ∧ qb ∈ F := by
  obtain ⟨s, ⟨qb, mb, Fq, rfl, h1, h2, h3, h4⟩, hr⟩ := h
  have h3' := h3
  obtain ⟨tb, mb', Ft, rfl, k1, k2, k3, k4, k5⟩ := h3
  have hm := hr.meanFor
  unfold MeanFor at hm
  refine ⟨qb, mb, s.q.m, tb, mb', s.q.c, h1, k1, k4, ⟨s, _, h3', hr⟩, fun c q lag => ?_, fun e => by rwa [if_neg e] at hm, by simp, by simp⟩
  by_cases e : A.l = []
  · rw [if_pos e] at hm
    rw [plM_nil hm.1 hm.2.1 hm.2.2]
    unfold mA its; rw [e]; rfl
  · rw [if_neg e] at hm; rw [hm]
theorem cweight_ret (q : Int) (w0 : World) : Ret Tryz.prog 205 #[.int .u32 q] w0 fun v w' => v = .bool (mayW q) ∧ Only [] w0 w' := by
  have hs := St.nil w0
  refine ret_of_xc Tryz.func205 (by kernel_rfl) rfl Tryz.ntmps205 rfl rfl rfl ?_
  repeat' (first|refine vs (k:=?_)|refine qRg ?_|refine Nx.h ?_|fail)
  (with_reducible apply xs_call); exact rfl; exact rfl; exact pright_ret ⟨0, 0, q⟩ _
  rw [show (⟨0, 0, q⟩ : Pt).right = mayW q by unfold Pt.right mayW; by_cases h : 1 ≤ q <;> simp [h] <;> omega]
  rintro v w' ⟨rfl, ho⟩; replace hs := hs.call0 ho; repeat' (first|refine vs (k:=?_)|refine Nx.h ?_|fail)
  first | refine rt (hq := ?_) | refine rt' (hq := ?_)
  exact ⟨rfl, hs.only0 rfl⟩
theorem cslice_ret (n : Int) (w0 : World) : Ret Tryz.prog 206 #[.int .u64 n] w0 fun v w' => v = .bool (mayN n) ∧ Only [] w0 w' := by
  have hs := St.nil w0
  refine ret_of_xc Tryz.func206 (by kernel_rfl) rfl Tryz.ntmps206 rfl rfl rfl ?_
  repeat' (first|refine vs (k:=?_)|refine ps (k:=?_)|refine qRg ?_|refine Nx.h ?_|((with_reducible apply xs_guard);exact rfl;exact rfl;intro c hc;(fail_if_success have:true=c:=hc);(fail_if_success have:false=c:=hc);cases c)|fail)
  all_goals (first | refine rt (hq := ?_) | refine rt' (hq := ?_))
  all_goals refine ⟨?_, hs.only0 rfl⟩
  all_goals clear hs
  · have h1 : decide (1 ≤ n) = false := hc
    unfold mayN; rw [h1]; rfl
  · have h1 : decide (1 ≤ n) = true := hc
    unfold mayN; rw [h1]; rfl
def toRT (r : Rq) : RT := if h : r.In then ⟨r, h⟩ else ⟨.zero, by decide⟩
theorem toRT_eq {r : Rq} (h : r.In) : (toRT r).1 = r := by unfold toRT; rw [dif_pos h]
def placeA (A : As) (q lag : Int) : Option Pt := plM (mA A) (nowA A) q lag
def joinOk (c : Cs) (id q ns lag : Int) : Option RT := (placeA c.A q lag).bind fun p => (newR p id ns).map toRT
theorem plM_in {m : Mn} {c q lag : Int} {p : Pt} (hc : U64 c) (hq : U32 q) (h : plM m c q lag = some p) : p.In := by
  unfold plM at h
  split at h
  · split at h
    · cases h; exact ⟨hc, (show U32 0 by decide), hq⟩
    · split at h
      · exact (at_some h).1
      · cases h
  · cases h
theorem nowA_in {s : Ss} {A : As} (h : Rep s A) (hc : U64 s.q.c) : U64 (nowA A) := by
  rw [← h.now]; exact nowQ_in hc
theorem newR_in {p : Pt} {id n : Int} {r : Rq} (hp : p.In) (hi : In64 id) (hn : U64 n) (h : newR p id n = some r) : r.In ∧ r.right = true := setR_in (⟨⟨hp, hi, (by decide : Pt.zero.In)⟩, hn, hn⟩ : Rq.In ⟨⟨p, id, .zero⟩, n, n, false⟩) h
theorem QuAt.nowU {w : World} {qb : Nat} {A : As} (h : QuAt w qb A) : U64 (nowA A) := by
  obtain ⟨s, F, ⟨tb, mb, Ft, rfl, k1, k2, k3, k4, k5⟩, hr⟩ := h
  exact nowA_in hr k5
def joinC (c : Cs) (id q ns lag : Int) : Int × Cs :=
  if id < 1 ∨ mayW q = false ∨ mayN ns = false then (2, c) else if (findR c.A.l id).isSome then (13, c) else if c.A.l.length = 32 then (7, c) else
    match joinOk c id q ns lag with
    | none => (8, c)
    | some r => if entE c.A r = 0 then (0, ⟨entA c.A r, c.run, carryW c.carr (lagA (entA c.A r) id)⟩) else (entE c.A r, c)
set_option maxHeartbeats 8000000 in
theorem join1_ret (b2 b3 b4 b5 : Nat) (c : Cs) (id q ns lag : Int) (wb w0 : World) (hid : In64 id) (hq : U32 q) (hns : U64 ns) (hlag : In64 lag)
    (B2 : w0.heap[b2]? = some (.cells #[.int .i64 id] 3 (0, 0))) (B3 : w0.heap[b3]? = some (.cells #[.int .u32 q] 25 (0, 0))) (B4 : w0.heap[b4]? = some (.cells #[.int .u64 ns] 22 (0, 0))) (B5 : w0.heap[b5]? = some (.cells #[.int .i64 lag] 2 (0, 0))) :
    DoAt wb w0 204 [.pointer (some ⟨b2, 0, none⟩), .pointer (some ⟨b3, 0, none⟩), .pointer (some ⟨b4, 0, none⟩), .pointer (some ⟨b5, 0, none⟩)] [] (fun _ => True) c (joinC c id q ns lag).1 (joinC c id q ns lag).2 .none := by
  intro cb rb F hC hR hFn hrb
  have hC0 := hC
  have hR0 := hR
  obtain ⟨sb, Fs, rfl, h1, hS, h3, h4⟩ := hC
  obtain ⟨qb, mb, m, tb, mb', cq, g1, g2, gin, gQ, gpl, gm, _, _⟩ := hS.mean
  have hs := (((((((St.nil w0).trackT h1).trackT g1).trackT g2).trackT B2).trackT B3).trackT B4).trackT B5
  refine ret_of_xc Tryz.func204 (by kernel_rfl) rfl Tryz.ntmps204 rfl rfl rfl ?_
  repeat' (first|refine vs (k:=?_)|refine qRg ?_|refine Nx.h ?_|fail)
  refine dr [] hs (k := ?_); intro hX w hs
  refine tk 0 hX (k := ?_)
  refine tk 1 hX (k := ?_)
  refine tk 2 hX (k := ?_)
  refine tk 3 hX (k := ?_)
  refine tk 4 hX (k := ?_)
  refine pd0 9 9 hs (k := ?_); intro f X w hp; have hs := hp.st
  apply xa_pend 5 9 (f := f) (X := X) hX hp; exact rfl; exact rfl; (first | (apply makes_alloc tabOk; exact rfl) | (apply makes_slice tabOk; exact rfl; exact rfl; exact rfl; exact rfl; exact rfl; (intro X; ((repeat (first | exact Bld.nil | (apply Bld.one; exact rfl; (conv => lhs; whnf); exact rfl; (repeat (first | exact PutL.nil | apply PutL.skip | apply PutL.cons))) | (apply Bld.agg; exact rfl; exact rfl; exact rfl; (repeat (first | exact PutL.nil | apply PutL.skip | apply PutL.cons))))))))); kernel_rfl; kernel_rfl; kernel_rfl; kernel_rfl; (intro X Y; (repeat (first | exact pgg_base | refine pgg_step ?_ (by exact rfl)))); (intro w' hs; ((first | exact se_hold hs.hold | exact se_hold (hold_sim hs.hold rfl) | exact se_hold (hold_sim hs.hold.tail rfl) | exact se_hold (hR hs rfl) | exact se_hold hs.hold.tail | exact se_hold hs.hold.tail.tail | exact se_hold hs.hold.tail.tail.tail | exact se_done rfl))); intro f X w hp; have hs := hp.st
  have ho := hs.onlyF [] (by simp [h1, g1, g2, B2, B3, B4, B5]) (by simp [D0])
  (with_reducible apply xs_call); exact rfl; exact rfl; exact areq_ret sb c.A Fs id _ (hS.only ho) hid
  rintro v w' ⟨rfl, ho⟩; replace hp := hp.only ho; replace hs := hp.st; repeat' (first|refine Nx.h ?_|fail)
  refine dn (k := ?_)
  refine tk 6 hX (hc := by cases f <;> kernel_rfl) (k := ?_)
  refine tk 7 hX (hc := by cases f <;> kernel_rfl) (k := ?_)
  refine tk 8 hX (hc := by cases f <;> kernel_rfl) (k := ?_)
  apply xa_pendE 9 (f := f) (X := X) hX hp; exact rfl; (first | (apply makes_alloc tabOk; exact rfl) | (apply makes_slice tabOk; exact rfl; exact rfl; exact rfl; exact rfl; exact rfl; (intro X; ((repeat (first | exact Bld.nil | (apply Bld.one; exact rfl; (conv => lhs; whnf); exact rfl; (repeat (first | exact PutL.nil | apply PutL.skip | apply PutL.cons))) | (apply Bld.agg; exact rfl; exact rfl; exact rfl; (repeat (first | exact PutL.nil | apply PutL.skip | apply PutL.cons))))))))); kernel_rfl; kernel_rfl; (intro X Y; (repeat (first | exact pgg_base | refine pgg_step ?_ (by exact rfl)))); (intro w' hs; ((first | exact se_hold hs.hold | exact se_hold (hold_sim hs.hold rfl) | exact se_hold (hold_sim hs.hold.tail rfl) | exact se_hold (hR hs rfl) | exact se_hold hs.hold.tail | exact se_hold hs.hold.tail.tail | exact se_hold hs.hold.tail.tail.tail | exact se_done rfl))); intro b w hI hs
  refine dt 10 hX (k := ?_)
  repeat' (first|(refine stA hs (k:=?_);intro w hs)|refine Nx.h ?_|fail)
  refine dn (k := ?_)
  refine tk 11 hX (k := ?_)
  refine en (k := ?_)
  repeat' (first|refine Nx.h ?_|fail)
  refine xc_region ?_ ?_; exact rfl
  have eJ : joinC c id q ns lag = if id < 1 ∨ mayW q = false ∨ mayN ns = false then (2, c) else if (findR c.A.l id).isSome then (13, c) else if c.A.l.length = 32 then (7, c) else
    match joinOk c id q ns lag with
    | none => (8, c)
    | some r => if entE c.A r = 0 then (0, ⟨entA c.A r, c.run, carryW c.carr (lagA (entA c.A r) id)⟩) else (entE c.A r, c) := rfl
  generalize joinC c id q ns lag = J at *
  have bad : ∀ (n : Int) (w' : World), J = (n, c) → n ≠ 0 → Only [] w0 w' → Value.int .i64 n = .int .i64 J.1 ∧ True ∧ (J.1 = 0 → ∃ F2 Fr, CAt w' cb J.2 F2 ∧ RpAt w' rb .none Fr ∧ (∀ k ∈ F2, k ∈ cb :: Fs ∨ w0.heap.size ≤ k) ∧ ∀ k ∈ Fr, k = rb ∨ w0.heap.size ≤ k) ∧ Only (rb :: (cb :: Fs) ++ []) w0 w' := fun n w' e hn ho => by
    subst e; exact ⟨rfl, trivial, fun h => absurd h hn, ho.weaken (by simp)⟩
  refine vs (k := ?_)
  refine vs (k := ?_)
  by_cases c1 : id < 1
  · rw [if_pos (.inl c1)] at eJ
    rw [decide_eq_true c1]
    repeat' (first|refine vs (k:=?_)|refine ps (k:=?_)|refine qRg ?_|refine Nx.h ?_|refine qCt ?_|fail)
    first | refine rt (hq := ?_) | refine rt' (hq := ?_)
    exact bad 2 _ eJ (by decide) (hs.onlyF [] (by simp [h1, g1, g2, B2, B3, B4, B5]) (by simp [D0]))
  rw [decide_eq_false c1]
  repeat' (first|refine vs (k:=?_)|fail)
  (with_reducible apply xs_call); exact rfl; exact rfl; exact cweight_ret q _
  cases c2 : mayW q
  · rw [if_pos (.inr (.inl c2))] at eJ
    rintro v w' ⟨rfl, ho⟩; replace hs := hs.call0 ho; repeat' (first|refine vs (k:=?_)|refine ps (k:=?_)|refine qRg ?_|refine Nx.h ?_|refine qCt ?_|fail)
    first | refine rt (hq := ?_) | refine rt' (hq := ?_)
    exact bad 2 _ eJ (by decide) (hs.onlyF [] (by simp [h1, g1, g2, B2, B3, B4, B5]) (by simp [D0]))
  rintro v w' ⟨rfl, ho⟩; replace hs := hs.call0 ho; repeat' (first|refine vs (k:=?_)|fail)
  (with_reducible apply xs_call); exact rfl; exact rfl; exact cslice_ret ns _
  cases c3 : mayN ns
  · rw [if_pos (.inr (.inr c3))] at eJ
    rintro v w' ⟨rfl, ho⟩; replace hs := hs.call0 ho; repeat' (first|refine vs (k:=?_)|refine qRg ?_|refine Nx.h ?_|refine qCt ?_|fail)
    first | refine rt (hq := ?_) | refine rt' (hq := ?_)
    exact bad 2 _ eJ (by decide) (hs.onlyF [] (by simp [h1, g1, g2, B2, B3, B4, B5]) (by simp [D0]))
  rw [if_neg (by simp [c1, c2, c3])] at eJ
  rintro v w' ⟨rfl, ho⟩; replace hs := hs.call0 ho; repeat' (first|refine vs (k:=?_)|refine qRg ?_|refine Nx.h ?_|refine qCf ?_|(refine xc_cond rfl (fun hc=>?_) (fun hc=>?_))|fail)
  · rw [if_pos hc] at eJ
    first | refine rt (hq := ?_) | refine rt' (hq := ?_)
    exact bad 13 _ eJ (by decide) (hs.onlyF [] (by simp [h1, g1, g2, B2, B3, B4, B5]) (by simp [D0]))
  rw [if_neg (by simp [hc])] at eJ
  have ho := hs.onlyF [] (by simp [h1, g1, g2, B2, B3, B4, B5]) (by simp [D0])
  (with_reducible apply xs_call); exact rfl; exact rfl; exact alen_ret qb c.A _ (gQ.only ho)
  rintro v w' ⟨rfl, ho⟩; replace hs := hs.call0 ho; repeat' (first|refine vs (k:=?_)|refine qRg ?_|refine Nx.h ?_|(refine xc_if rfl (fun hc=>?_) (fun hc=>?_))|fail)
  · rw [if_pos (by omega)] at eJ
    first | refine rt (hq := ?_) | refine rt' (hq := ?_)
    exact bad 7 _ eJ (by decide) (hs.onlyF [] (by simp [h1, g1, g2, B2, B3, B4, B5]) (by simp [D0]))
  rw [if_neg (by omega)] at eJ
  refine dr [] hs (k := ?_); intro hX w hs
  refine tk 0 hX (k := ?_)
  refine tk 1 hX (k := ?_)
  refine tk 2 hX (k := ?_)
  refine tk 3 hX (k := ?_)
  refine tk 4 hX (k := ?_)
  refine tk 5 hX (k := ?_)
  refine tk 6 hX (k := ?_)
  refine tk 7 hX (k := ?_)
  refine tk 8 hX (k := ?_)
  refine tk 9 hX (k := ?_)
  refine tk 10 hX (k := ?_)
  refine tk 11 hX (k := ?_)
  refine tk 12 hX (k := ?_)
  refine tk 13 hX (k := ?_)
  refine tk 14 hX (k := ?_)
  refine tk 15 hX (k := ?_)
  refine tk 16 hX (k := ?_)
  refine tk 18 hX (k := ?_)
  refine tk 19 hX (k := ?_)
  refine pd0 24 11 hs (k := ?_); intro f X w hp; have hs := hp.st
  apply xa_pend 17 24 (f := f) (X := X) hX hp; exact rfl; exact rfl; (first | (apply makes_alloc tabOk; exact rfl) | (apply makes_slice tabOk; exact rfl; exact rfl; exact rfl; exact rfl; exact rfl; (intro X; ((repeat (first | exact Bld.nil | (apply Bld.one; exact rfl; (conv => lhs; whnf); exact rfl; (repeat (first | exact PutL.nil | apply PutL.skip | apply PutL.cons))) | (apply Bld.agg; exact rfl; exact rfl; exact rfl; (repeat (first | exact PutL.nil | apply PutL.skip | apply PutL.cons))))))))); kernel_rfl; kernel_rfl; kernel_rfl; kernel_rfl; (intro X Y; (repeat (first | exact pgg_base | refine pgg_step ?_ (by exact rfl)))); (intro w' hs; ((first | exact se_hold hs.hold | exact se_hold (hold_sim hs.hold rfl) | exact se_hold (hold_sim hs.hold.tail rfl) | exact se_hold (hR hs rfl) | exact se_hold hs.hold.tail | exact se_hold hs.hold.tail.tail | exact se_hold hs.hold.tail.tail.tail | exact se_done rfl))); intro f X w hp; have hs := hp.st
  have ho := hs.onlyF [] (by simp [h1, g1, g2, B2, B3, B4, B5]) (by simp [D0])
  (with_reducible apply xs_call); exact rfl; exact rfl; exact anow_ret qb c.A _ (gQ.only ho)
  rintro v w' ⟨rfl, ho⟩; replace hp := hp.only ho; replace hs := hp.st; repeat' (first|refine Nx.h ?_|fail)
  refine dn (k := ?_)
  apply xa_pend 20 24 (f := f) (X := X) hX hp; exact rfl; exact rfl; (first | (apply makes_alloc tabOk; exact rfl) | (apply makes_slice tabOk; exact rfl; exact rfl; exact rfl; exact rfl; exact rfl; (intro X; ((repeat (first | exact Bld.nil | (apply Bld.one; exact rfl; (conv => lhs; whnf); exact rfl; (repeat (first | exact PutL.nil | apply PutL.skip | apply PutL.cons))) | (apply Bld.agg; exact rfl; exact rfl; exact rfl; (repeat (first | exact PutL.nil | apply PutL.skip | apply PutL.cons))))))))); kernel_rfl; kernel_rfl; kernel_rfl; kernel_rfl; (intro X Y; (repeat (first | exact pgg_base | refine pgg_step ?_ (by exact rfl)))); (intro w' hs; ((first | exact se_hold hs.hold | exact se_hold (hold_sim hs.hold rfl) | exact se_hold (hold_sim hs.hold.tail rfl) | exact se_hold (hR hs rfl) | exact se_hold hs.hold.tail | exact se_hold hs.hold.tail.tail | exact se_hold hs.hold.tail.tail.tail | exact se_done rfl))); intro f X w hp; have hs := hp.st
  have hnow := gQ.nowU
  have eP : joinOk c id q ns lag = (placeA c.A q lag).bind fun p => (newR p id ns).map toRT := rfl
  have hPin : ∀ p, placeA c.A q lag = some p → p.In := fun p h => plM_in hnow hq h
  (with_reducible apply xs_call); exact rfl; exact rfl; exact place_ret m (nowA c.A) q lag gin hq hlag _
  rw [show plM m (nowA c.A) q lag = placeA c.A q lag from gpl _ _ _]
  generalize placeA c.A q lag = op at *
  cases op with
  | none =>
    rw [show joinOk c id q ns lag = none from eP] at eJ
    rintro v w' ⟨rfl, ho⟩; replace hp := hp.only ho; replace hs := hp.st; repeat' (first|refine Nx.h ?_|fail)
    refine dn (k := ?_)
    refine tk 21 hX (hc := by cases f <;> kernel_rfl) (k := ?_)
    refine tk 22 hX (hc := by cases f <;> kernel_rfl) (k := ?_)
    refine tk 23 hX (hc := by cases f <;> kernel_rfl) (k := ?_)
    apply xa_pendE 24 (f := f) (X := X) hX hp; exact rfl; (first | (apply makes_alloc tabOk; exact rfl) | (apply makes_slice tabOk; exact rfl; exact rfl; exact rfl; exact rfl; exact rfl; (intro X; ((repeat (first | exact Bld.nil | (apply Bld.one; exact rfl; (conv => lhs; whnf); exact rfl; (repeat (first | exact PutL.nil | apply PutL.skip | apply PutL.cons))) | (apply Bld.agg; exact rfl; exact rfl; exact rfl; (repeat (first | exact PutL.nil | apply PutL.skip | apply PutL.cons))))))))); kernel_rfl; kernel_rfl; (intro X Y; (repeat (first | exact pgg_base | refine pgg_step ?_ (by exact rfl)))); (intro w' hs; ((first | exact se_hold hs.hold | exact se_hold (hold_sim hs.hold rfl) | exact se_hold (hold_sim hs.hold.tail rfl) | exact se_hold (hR hs rfl) | exact se_hold hs.hold.tail | exact se_hold hs.hold.tail.tail | exact se_hold hs.hold.tail.tail.tail | exact se_done rfl))); intro b w hI hs
    refine dt 25 hX (k := ?_)
    repeat' (first|(refine stA hs (k:=?_);intro w hs)|refine Nx.h ?_|fail)
    refine dn (k := ?_)
    refine tk 26 hX (k := ?_)
    refine en (k := ?_)
    repeat' (first|refine vs (k:=?_)|refine qRg ?_|refine Nx.h ?_|fail)
    (with_reducible apply xs_call); exact rfl; exact rfl; exact rnew_ret .zero id ns (by decide) hid hns _
    generalize newR .zero id ns = o
    cases o
    · rintro v w' ⟨rfl, ho⟩; replace hs := hs.call0 ho; repeat' (first|refine vs (k:=?_)|refine ps (k:=?_)|(refine stA hs (k:=?_);intro w hs)|(refine al hs (k:=?_);intro b w hz hs)|refine qRg ?_|refine Nx.h ?_|refine qCt ?_|fail)
      first | refine rt (hq := ?_) | refine rt' (hq := ?_)
      exact bad 8 _ eJ (by decide) (hs.onlyF [] (by simp [h1, g1, g2, B2, B3, B4, B5]) (by simp [D0]))
    · rintro v w' ⟨rfl, ho⟩; replace hs := hs.call0 ho; repeat' (first|refine vs (k:=?_)|refine ps (k:=?_)|(refine stA hs (k:=?_);intro w hs)|(refine al hs (k:=?_);intro b w hz hs)|refine qRg ?_|refine Nx.h ?_|refine qCt ?_|fail)
      first | refine rt (hq := ?_) | refine rt' (hq := ?_)
      exact bad 8 _ eJ (by decide) (hs.onlyF [] (by simp [h1, g1, g2, B2, B3, B4, B5]) (by simp [D0]))
  | some p =>
    have hpin := hPin p rfl
    have eP' : joinOk c id q ns lag = (newR p id ns).map toRT := eP
    rintro v w' ⟨rfl, ho⟩; replace hp := hp.only ho; replace hs := hp.st; repeat' (first|refine Nx.h ?_|fail)
    refine dn (k := ?_)
    refine tk 21 hX (hc := by cases f <;> kernel_rfl) (k := ?_)
    refine tk 22 hX (hc := by cases f <;> kernel_rfl) (k := ?_)
    refine tk 23 hX (hc := by cases f <;> kernel_rfl) (k := ?_)
    apply xa_pendE 24 (f := f) (X := X) hX hp; exact rfl; (first | (apply makes_alloc tabOk; exact rfl) | (apply makes_slice tabOk; exact rfl; exact rfl; exact rfl; exact rfl; exact rfl; (intro X; ((repeat (first | exact Bld.nil | (apply Bld.one; exact rfl; (conv => lhs; whnf); exact rfl; (repeat (first | exact PutL.nil | apply PutL.skip | apply PutL.cons))) | (apply Bld.agg; exact rfl; exact rfl; exact rfl; (repeat (first | exact PutL.nil | apply PutL.skip | apply PutL.cons))))))))); kernel_rfl; kernel_rfl; (intro X Y; (repeat (first | exact pgg_base | refine pgg_step ?_ (by exact rfl)))); (intro w' hs; ((first | exact se_hold hs.hold | exact se_hold (hold_sim hs.hold rfl) | exact se_hold (hold_sim hs.hold.tail rfl) | exact se_hold (hR hs rfl) | exact se_hold hs.hold.tail | exact se_hold hs.hold.tail.tail | exact se_hold hs.hold.tail.tail.tail | exact se_done rfl))); intro b w hI hs
    refine dt 25 hX (k := ?_)
    repeat' (first|(refine stA hs (k:=?_);intro w hs)|refine Nx.h ?_|fail)
    refine dn (k := ?_)
    refine tk 26 hX (k := ?_)
    refine en (k := ?_)
    repeat' (first|refine vs (k:=?_)|refine qRg ?_|refine Nx.h ?_|fail)
    (with_reducible apply xs_call); exact rfl; exact rfl; exact rnew_ret p id ns hpin hid hns _
    cases hr : newR p id ns with
    | none =>
      rw [hr] at eP'
      rw [show joinOk c id q ns lag = none from eP'] at eJ
      rintro v w' ⟨rfl, ho⟩; replace hs := hs.call0 ho; repeat' (first|refine vs (k:=?_)|(refine stA hs (k:=?_);intro w hs)|(refine al hs (k:=?_);intro b w hz hs)|refine qRg ?_|refine Nx.h ?_|refine qCt ?_|fail)
      first | refine rt (hq := ?_) | refine rt' (hq := ?_)
      exact bad 8 _ eJ (by decide) (hs.onlyF [] (by simp [h1, g1, g2, B2, B3, B4, B5]) (by simp [D0]))
    | some r =>
      obtain ⟨rin, rrt⟩ := newR_in hpin hid hns hr
      rw [hr] at eP'
      rw [show joinOk c id q ns lag = some ⟨r, rin⟩ by rw [eP']; exact congrArg some (dif_pos rin)] at eJ
      simp only at eJ
      rintro v w' ⟨rfl, ho⟩; replace hs := hs.call0 ho; repeat' (first|refine vs (k:=?_)|(refine stA hs (k:=?_);intro w hs)|(refine al hs (k:=?_);intro b w hz hs)|refine qRg ?_|refine Nx.h ?_|refine qCf ?_|fail)
      have ho := hs.onlyF [] (by simp [h1, g1, g2, B2, B3, B4, B5]) (by simp [D0])
      have x1 := hs.get (b := cb) (o := coreO sb c.run c.carr) (by repeat (first | exact At.head | (with_reducible apply At.tail)))
      have x2 := hs.get (b := b) (by repeat (first | exact At.head | (with_reducible apply At.tail)))
      have x3 := hs.get (b := b2) (by repeat (first | exact At.head | (with_reducible apply At.tail)))
      have hb := hs.new _ List.mem_cons_self rfl
      simp only at hb
      clear hs
      have hs := (((St.nil _).trackT x1).trackT x2).trackT x3
      refine dr [] hs (k := ?_); intro hX w hs
      refine tk 0 hX (k := ?_)
      refine tk 1 hX (k := ?_)
      refine tk 2 hX (k := ?_)
      refine tk 3 hX (k := ?_)
      refine tk 4 hX (k := ?_)
      refine dt 5 hX (k := ?_)
      have ho1 := hs.onlyF [] (by simp [x1, x2, x3]) (by simp [D0])
      have hSw := hS.only (ho.trans ho1)
      (with_reducible apply xs_call); exact rfl; exact rfl; exact aenter_ret sb c.A Fs ⟨r, rin⟩ _ hSw
      rintro v w2 ⟨rfl, F2, hS2, hF2, ho2⟩
      have n1 : cb ∉ Fs := CAt.nod h1 hS
      have n2 : b ∉ Fs := hSw.not (hs.get (b := b) (by repeat (first | exact At.head | (with_reducible apply At.tail)))) rfl
      have n3 : b2 ∉ Fs := hS.not B2 rfl
      have y1 := ho2.block (hs.get (b := cb) (o := coreO sb c.run c.carr) (by repeat (first | exact At.head | (with_reducible apply At.tail)))) n1
      have y2 := ho2.block (hs.get (b := b) (by repeat (first | exact At.head | (with_reducible apply At.tail)))) n2
      have y3 := ho2.block (hs.get (b := b2) (by repeat (first | exact At.head | (with_reducible apply At.tail)))) n3
      have hoA : Only (rb :: (cb :: Fs) ++ []) w0 w2 := ((ho.trans ho1).weaken (by simp)).step ho2 (fun k hk => .inl (by simp [hk]))
      have hz0 := (ho.trans ho1).size
      have hR2 : RpAt w2 rb .none [rb] := (hR.only (ho.trans ho1)).keepD ho2 (fun k hk hm => by
        obtain rfl := List.mem_singleton.1 hk
        exact hR0.apart hC0 k (by simp) (by simp [hm]))
      clear hs
      have hs := (((St.nil w2).trackT y1).trackT y2).trackT y3
      repeat' (first|refine Nx.h ?_|fail)
      refine dn (k := ?_)
      refine tk 6 hX (k := ?_)
      refine en (k := ?_)
      by_cases hE : entE c.A ⟨r, rin⟩ = 0
      · rw [if_pos hE] at eJ
        rw [hE]
        repeat' (first|refine vs (k:=?_)|refine qRg ?_|refine Nx.h ?_|refine qCf ?_|fail)
        have ho3 := hs.onlyF [] (by simp [y1, y2, y3]) (by simp [D0])
        have hC2 : CAt w2 cb ⟨entA c.A ⟨r, rin⟩, c.run, c.carr⟩ (cb :: F2) := ⟨sb, F2, rfl, y1, hS2, h3, h4⟩
        (with_reducible apply xs_call); exact rfl; exact rfl; exact lagof_ret cb ⟨entA c.A ⟨r, rin⟩, c.run, c.carr⟩ _ id _ (hC2.only ho3) hid
        rintro v w' ⟨rfl, ho⟩; replace hs := hs.call0 ho; skip
        have ho4 := hs.onlyF [] (by simp [y1, y2, y3]) (by simp [D0])
        obtain ⟨s2, hrep2⟩ := hS2.rep
        have hS4 := hS2.only ho4
        (with_reducible apply xs_call); exact rfl; exact rfl; exact carry_ret cb sb c.run c.carr _ _ (hs.get (b := cb) (o := coreO sb c.run c.carr) (by repeat (first | exact At.head | (with_reducible apply At.tail)))) h3 (lagA_in hrep2 id)
        rintro v w5 ⟨hc5, ho5⟩
        have n5 : cb ∉ F2 := CAt.nod y1 hS2
        clear hs
        have hs := St.nil w5
        repeat' (first|refine vs (k:=?_)|refine qRg ?_|refine Nx.h ?_|fail)
        first | refine rt (hq := ?_) | refine rt' (hq := ?_)
        have ho6 := hs.only0 rfl
        subst eJ
        have hoB := (ho4.weaken (G := [cb]) (by simp)).step ho5 (fun k hk => .inl hk)
        refine ⟨rfl, trivial, fun _ => ⟨cb :: F2, [rb], ⟨sb, F2, rfl, ho6.block hc5 (by simp), (hS4.keepD ho5 (fun k hk hm => by obtain rfl := List.mem_singleton.1 hm; exact n5 hk)).only ho6, carryW_in _ _, h4⟩, ((hR2.keepD hoB (fun k hk hm => by
          obtain rfl := List.mem_singleton.1 hk
          obtain rfl := List.mem_singleton.1 hm
          exact hR0.apart hC0 k (by simp) (by simp))).only ho6), fun k hk => ?_, fun k hk => .inl (by simpa using hk)⟩, (hoA.step hoB (fun k hk => .inl (by obtain rfl := List.mem_singleton.1 hk; simp))).step ho6 (by simp)⟩
        rcases List.mem_cons.1 hk with rfl | hk
        · simp
        · rcases hF2 k hk with h | h
          · simp [h]
          · exact .inr (by omega)
      · rw [if_neg hE] at eJ
        subst eJ
        generalize entE c.A ⟨r, rin⟩ = n at *
        repeat' (first|refine vs (k:=?_)|refine qRg ?_|refine Nx.h ?_|(refine xc_cond rfl (fun hc=>?_) (fun hc=>?_))|fail)
        · first | refine rt (hq := ?_) | refine rt' (hq := ?_)
          have ho6 := hs.onlyF [] (by simp [y1, y2, y3]) (by simp [D0])
          exact ⟨rfl, trivial, fun h => absurd h hE, hoA.step ho6 (by simp)⟩
        · exact absurd (by simpa using hc) hE
set_option maxHeartbeats 4000000 in
theorem join_ret (cb : Nat) (c : Cs) (F : List Nat) (id q ns lag : Int) (w0 : World) (h : CAt w0 cb c F) (hid : In64 id) (hq : U32 q) (hns : U64 ns) (hlag : In64 lag) :
    Ret Tryz.prog 161 #[.pointer (some ⟨cb, 0, none⟩), .int .i64 id, .int .u32 q, .int .u64 ns, .int .i64 lag] w0 fun v w' => ∃ rv, v = .tuple #[rv, .int .i64 (joinC c id q ns lag).1] ∧ RvAt w' rv (tryR (joinC c id q ns lag).1 (joinC c id q ns lag).2 .none) ∧
      (∃ F', CAt w' cb (tryC c (joinC c id q ns lag).1 (joinC c id q ns lag).2) F' ∧ ∀ k ∈ F', k ∈ F ∨ w0.heap.size ≤ k) ∧ Only [cb] w0 w' := by
  have hs := St.nil w0
  refine ret_of_xc Tryz.func161 (by kernel_rfl) rfl Tryz.ntmps161 rfl rfl rfl ?_
  refine xc_seq ?_
  refine xc_region ?_ ?_; exact rfl
  refine bx hs (k := ?_); intro b6 w _ hs
  refine bx hs (k := ?_); intro b7 w _ hs
  refine bx hs (k := ?_); intro b8 w _ hs
  refine bx hs (k := ?_); intro b9 w _ hs
  refine al hs (k := ?_); intro b10 w hz hs
  repeat' (first|refine vs (k:=?_)|refine qRg ?_|refine Nx.h ?_|fail)
  have ho := hs.only0 rfl
  have hz := ho.size
  have x6 := hs.get (b := b6) (by repeat (first | exact At.head | (with_reducible apply At.tail)))
  have x7 := hs.get (b := b7) (by repeat (first | exact At.head | (with_reducible apply At.tail)))
  have x8 := hs.get (b := b8) (by repeat (first | exact At.head | (with_reducible apply At.tail)))
  have x9 := hs.get (b := b9) (by repeat (first | exact At.head | (with_reducible apply At.tail)))
  have x10 := hs.get (b := b10) (by repeat (first | exact At.head | (with_reducible apply At.tail)))
  have hCw := h.only ho
  have hb := hs.new _ List.mem_cons_self rfl
  simp only at hb
  (with_reducible apply xs_call); exact rfl; exact rfl; exact try_ret cb c F _ hCw 204 [.pointer (some ⟨b6, 0, none⟩), .pointer (some ⟨b7, 0, none⟩), .pointer (some ⟨b8, 0, none⟩), .pointer (some ⟨b9, 0, none⟩)] [] (fun _ => True) (joinC c id q ns lag).1 (joinC c id q ns lag).2 .none (fun _ _ _ _ _ _ => trivial) (by simp) (by simp [Rp.none]) (fun w1 ho1 => join1_ret b6 b7 b8 b9 c id q ns lag _ w1 hid hq hns hlag (ho1.block x6 (by simp)) (ho1.block x7 (by simp)) (ho1.block x8 (by simp)) (ho1.block x9 (by simp)))
  rintro v w2 ⟨rv, rfl, _, hRv, ⟨F', hC', hF'⟩, ho2⟩
  obtain ⟨vg, vp, Gg, Gp, rfl, p1, p2⟩ := hRv
  obtain ⟨ag, cg, rfl⟩ := slv_form p1
  obtain ⟨ap, cp, rfl⟩ := slv_form p2
  have x2 := ho2.block x10 (fun hm => by obtain rfl := List.mem_singleton.1 hm; exact hCw.not x10 rfl (by obtain ⟨_, _, rfl, _⟩ := hCw; simp))
  clear hs
  have hs := (St.nil w2).trackT x2
  repeat' (first|refine vs (k:=?_)|(refine stA hs (k:=?_);intro w hs)|refine Nx.h ?_|fail)
  first | refine rt (hq := ?_) | refine rt' (hq := ?_)
  have ho3 : Only [b10] w2 _ := hs.onlyF [b10] (by simp) (by simp [D0])
  exact ⟨_, rfl, ⟨_, _, Gg, Gp, rfl, p1.keep ho3 (fun k hk hm => by obtain rfl := List.mem_singleton.1 hm; exact slv_ne p1 x2 (by decide) hk), p2.keep ho3 (fun k hk hm => by obtain rfl := List.mem_singleton.1 hm; exact slv_ne p2 x2 (by decide) hk)⟩, ⟨F', hC'.keepD ho3 (fun k hk hm => by obtain rfl := List.mem_singleton.1 hm; exact hC'.not x2 rfl hk), fun k hk => by
    rcases hF' k hk with h | h
    · exact .inl h
    · exact .inr (by omega)⟩, ((ho.weaken (by simp)).step ho2 (fun k hk => .inl hk)).step ho3 (fun k hk => .inr (by obtain rfl := List.mem_singleton.1 hk; exact hb))⟩
end Go.Proofs.YtilajmcellffiaaGreatDoorX

namespace Go.Proofs.YtilajmcellffiaaGreatDoorX
open Go Go.RowKit
attribute [local irreducible] XS XC XA thenE blockE retE loopE loopS cutB cutN doneE SE
theorem getL_in (l : List RT) (i : Int) : (getL l i).In := by
  unfold getL
  cases findR l i with
  | none => decide
  | some a => exact a.2
def srvN (c : Cs) (most : Int) : Int := lessN most (getL c.A.l c.run).left
def srvO (c : Cs) (most : Int) : Option (Rq × Bool) := serveR (getL c.A.l c.run) (srvN c most)
def srvY (c : Cs) (most : Int) : RT := toRT (match srvO c most with | some x => x.1 | none => .zero)
def srvE (c : Cs) (most : Int) : Int := putE c.A (srvY c most)
def srvA (c : Cs) (most : Int) : Cs := ⟨putA c.A (srvY c most), c.run, c.carr⟩
def srvP (c : Cs) (most : Int) : Pr := ⟨c.run, srvN c most, match srvO c most with | some x => x.2 | none => false⟩
def srvR (c : Cs) (most : Int) (r : Rp) : Rp := ⟨r.g ++ goneC (srvA c most), r.p ++ [srvP c most]⟩
theorem srvY_eq (c : Cs) (most : Int) (hm : U64 most) : (srvY c most).1 = (match srvO c most with | some x => x.1 | none => .zero) ∧ U64 (srvN c most) := by
  have h1 : U64 (srvN c most) := lessN_in hm (getL_in _ _).2.1
  refine ⟨toRT_eq ?_, h1⟩
  cases e : srvO c most with
  | none => show Rq.zero.In; decide
  | some x => exact serveR_in (getL_in c.A.l c.run) h1 (show serveR _ _ = some (x.1, x.2) from e)
theorem flatPr_snoc (l : List Pr) (p : Pr) : flatPr (l ++ [p]) = flatPr l ++ p.cells := by simp [flatPr]
set_option maxHeartbeats 8000000 in
theorem serve_ret (cb rb : Nat) (c : Cs) (most : Int) (r : Rp) (F Fr : List Nat) (w0 : World) (h : CAt w0 cb c F) (hr : RpAt w0 rb r Fr) (hm : U64 most) (hg : r.g.length ≤ 1000000) (hp' : r.p.length < 1000000) :
    Ret Tryz.prog 211 #[.pointer (some ⟨cb, 0, none⟩), .int .u64 most, .pointer (some ⟨rb, 0, none⟩)] w0 fun v w' => v = .tuple #[.int .u64 (if srvE c most = 0 then srvN c most else 0), .int .i64 (srvE c most)] ∧
      (srvE c most = 0 → ∃ F' Fr', CAt w' cb (setC (srvA c most)) F' ∧ RpAt w' rb (srvR c most r) Fr' ∧ (∀ k ∈ F', k ∈ F ∨ w0.heap.size ≤ k) ∧ (∀ k ∈ Fr', k ∈ Fr ∨ w0.heap.size ≤ k)) ∧ Only (F ++ Fr) w0 w' := by
  have hC0 := h
  have hR0 := hr
  have hap := hr.apart h
  obtain ⟨sb, Fs, rfl, h1, hS, h3, h4⟩ := h
  obtain ⟨vg, vp, Gg, Gp, rfl, r1, r2, r3⟩ := hr
  have hs := ((St.nil w0).trackT h1).trackT r1
  refine ret_of_xc Tryz.func211 (by kernel_rfl) rfl Tryz.ntmps211 rfl rfl rfl ?_
  repeat' (first|refine vs (k:=?_)|refine qRg ?_|refine Nx.h ?_|fail)
  refine dr [] hs (k := ?_); intro hX w hs
  refine tk 0 hX (k := ?_)
  refine tk 1 hX (k := ?_)
  refine tk 2 hX (k := ?_)
  refine tk 3 hX (k := ?_)
  refine tk 4 hX (k := ?_)
  refine tk 5 hX (k := ?_)
  refine tk 6 hX (k := ?_)
  refine tk 7 hX (k := ?_)
  refine pd0 12 8 hs (k := ?_); intro f X w hp; have hs := hp.st
  apply xa_pend 8 12 (f := f) (X := X) hX hp; exact rfl; exact rfl; (first | (apply makes_alloc tabOk; exact rfl) | (apply makes_slice tabOk; exact rfl; exact rfl; exact rfl; exact rfl; exact rfl; (intro X; ((repeat (first | exact Bld.nil | (apply Bld.one; exact rfl; (conv => lhs; whnf); exact rfl; (repeat (first | exact PutL.nil | apply PutL.skip | apply PutL.cons))) | (apply Bld.agg; exact rfl; exact rfl; exact rfl; (repeat (first | exact PutL.nil | apply PutL.skip | apply PutL.cons))))))))); kernel_rfl; kernel_rfl; kernel_rfl; kernel_rfl; (intro X Y; (repeat (first | exact pgg_base | refine pgg_step ?_ (by exact rfl)))); (intro w' hs; ((first | exact se_hold hs.hold | exact se_hold (hold_sim hs.hold rfl) | exact se_hold (hold_sim hs.hold.tail rfl) | exact se_hold (hR hs rfl) | exact se_hold hs.hold.tail | exact se_hold hs.hold.tail.tail | exact se_hold hs.hold.tail.tail.tail | exact se_done rfl))); intro f X w hp; have hs := hp.st
  have ho := hs.onlyF [] (by simp [h1, r1]) (by simp [D0])
  (with_reducible apply xs_call); exact rfl; exact rfl; exact areq_ret sb c.A Fs c.run _ (hS.only ho) h4
  have hx := getL_in c.A.l c.run
  obtain ⟨eY, eN⟩ := srvY_eq c most hm
  have eN' : srvN c most = lessN most (getL c.A.l c.run).left := rfl
  have eO : srvO c most = serveR (getL c.A.l c.run) (srvN c most) := rfl
  have eP : srvP c most = ⟨c.run, srvN c most, match srvO c most with | some x => x.2 | none => false⟩ := rfl
  have eE : srvE c most = putE c.A (srvY c most) := rfl
  have eA : srvA c most = ⟨putA c.A (srvY c most), c.run, c.carr⟩ := rfl
  have eR : srvR c most r = ⟨r.g ++ goneC (srvA c most), r.p ++ [srvP c most]⟩ := rfl
  generalize getL c.A.l c.run = x at *
  rintro v w' ⟨rfl, ho⟩; replace hp := hp.only ho; replace hs := hp.st; repeat' (first|refine Nx.h ?_|fail)
  refine dn (k := ?_)
  refine tk 9 hX (hc := by cases f <;> kernel_rfl) (k := ?_)
  refine tk 10 hX (hc := by cases f <;> kernel_rfl) (k := ?_)
  refine tk 11 hX (hc := by cases f <;> kernel_rfl) (k := ?_)
  apply xa_pendE 12 (f := f) (X := X) hX hp; exact rfl; (first | (apply makes_alloc tabOk; exact rfl) | (apply makes_slice tabOk; exact rfl; exact rfl; exact rfl; exact rfl; exact rfl; (intro X; ((repeat (first | exact Bld.nil | (apply Bld.one; exact rfl; (conv => lhs; whnf); exact rfl; (repeat (first | exact PutL.nil | apply PutL.skip | apply PutL.cons))) | (apply Bld.agg; exact rfl; exact rfl; exact rfl; (repeat (first | exact PutL.nil | apply PutL.skip | apply PutL.cons))))))))); kernel_rfl; kernel_rfl; (intro X Y; (repeat (first | exact pgg_base | refine pgg_step ?_ (by exact rfl)))); (intro w' hs; ((first | exact se_hold hs.hold | exact se_hold (hold_sim hs.hold rfl) | exact se_hold (hold_sim hs.hold.tail rfl) | exact se_hold (hR hs rfl) | exact se_hold hs.hold.tail | exact se_hold hs.hold.tail.tail | exact se_hold hs.hold.tail.tail.tail | exact se_done rfl))); intro b w hI hs
  refine dt 13 hX (k := ?_)
  repeat' (first|(refine stA hs (k:=?_);intro w hs)|refine Nx.h ?_|fail)
  refine dn (k := ?_)
  refine tk 14 hX (k := ?_)
  refine en (k := ?_)
  repeat' (first|refine vs (k:=?_)|refine qRg ?_|refine Nx.h ?_|fail)
  rw [show (if x.left < most then x.left else most) = srvN c most from eN'.symm]
  generalize srvN c most = n at *
  have hsv : ∃ u bd ok, svV (srvO c most) = .tuple #[rv u, .bool bd, .bool ok] ∧ (srvY c most).1 = u ∧ srvP c most = ⟨c.run, n, bd⟩ := by
    rw [eY, eP]
    cases srvO c most with
    | none => exact ⟨_, _, _, rfl, rfl, rfl⟩
    | some y => exact ⟨_, _, _, rfl, rfl, rfl⟩
  obtain ⟨u, bd, ok, hsv, hYu, hPe⟩ := hsv
  rw [eO] at hsv
  (with_reducible apply xs_call); exact rfl; exact rfl; exact rserve_ret x n hx eN _
  rw [hsv]
  clear eO eP hsv eY
  generalize srvY c most = Y at *
  generalize srvP c most = P at *
  generalize srvA c most = c2 at *
  generalize srvE c most = e at *
  generalize srvR c most r = R at *
  subst hYu hPe
  rintro v w' ⟨rfl, ho⟩; replace hs := hs.call0 ho; repeat' (first|refine vs (k:=?_)|(refine stA hs (k:=?_);intro w hs)|(refine al hs (k:=?_);intro b w hz hs)|refine Nx.h ?_|fail)
  have ho := hs.onlyF [] (by simp [h1, r1]) (by simp [D0])
  have x1 := hs.get (b := cb) (o := coreO sb c.run c.carr) (by repeat (first | exact At.head | (with_reducible apply At.tail)))
  have x2 := hs.get (b := b) (by repeat (first | exact At.head | (with_reducible apply At.tail)))
  have x3 := hs.get (b := rb) (o := repO vg vp) (by repeat (first | exact At.head | (with_reducible apply At.tail)))
  clear hs
  obtain ⟨bY, rfl⟩ : ∃ z, z = b := ⟨_, rfl⟩
  have hs := (((St.nil _).trackT x1).trackT x2).trackT x3
  refine dr [] hs (k := ?_); intro hX w hs
  refine tk 0 hX (k := ?_)
  refine tk 1 hX (k := ?_)
  refine tk 2 hX (k := ?_)
  refine tk 3 hX (k := ?_)
  refine tk 4 hX (k := ?_)
  refine dt 5 hX (k := ?_)
  have ho1 := hs.onlyF [] (by simp [x1, x2, x3]) (by simp [D0])
  have hSw := hS.only (ho.trans ho1)
  (with_reducible apply xs_call); exact rfl; exact rfl; exact aput_ret sb c.A Fs Y _ hSw
  rw [← eE]
  rintro v w2 ⟨rfl, F2, hS2, hF2, ho2⟩
  have n1 : cb ∉ Fs := CAt.nod h1 hS
  have n3 : rb ∉ Fs := hS.not r1 rfl
  have y1 := ho2.block (hs.get (b := cb) (o := coreO sb c.run c.carr) (by repeat (first | exact At.head | (with_reducible apply At.tail)))) n1
  have y3 := ho2.block (hs.get (b := rb) (o := repO vg vp) (by repeat (first | exact At.head | (with_reducible apply At.tail)))) n3
  have y2 := ho2.block (hs.get (b := bY) (by repeat (first | exact At.head | (with_reducible apply At.tail)))) (hSw.not (hs.get (b := bY) (by repeat (first | exact At.head | (with_reducible apply At.tail)))) rfl)
  have hoA : Only ((cb :: Fs) ++ (rb :: (Gg ++ Gp))) w0 w2 := ((ho.trans ho1).weaken (by simp)).step ho2 (fun k hk => .inl (by simp [hk]))
  have hz0 := (ho.trans ho1).size
  have hR2 : RpAt w2 rb r (rb :: (Gg ++ Gp)) := (hR0.only (ho.trans ho1)).keepD ho2 (fun k hk hm => hap k hk (by simp [hm]))
  clear hs
  have hs := (((St.nil w2).trackT y1).trackT y2).trackT y3
  repeat' (first|refine Nx.h ?_|fail)
  refine dn (k := ?_)
  refine tk 6 hX (k := ?_)
  refine en (k := ?_)
  by_cases he : e = 0
  · subst he
    rw [if_pos (rfl : (0 : Int) = 0)]
    repeat' (first|refine vs (k:=?_)|refine qRg ?_|refine Nx.h ?_|refine qCf ?_|fail)
    obtain ⟨vg', vp', Gg', Gp', eF, q1, q2, q3⟩ := hR2
    obtain ⟨rfl, rfl⟩ : vg = vg' ∧ vp = vp' := by rw [y3] at q1; simp only [Option.some.injEq, Obj.cells.injEq] at q1; have := congrArg Array.toList q1.1; simp at this; exact this
    refine dr [16] hs (k := ?_); intro hX w hs
    refine tk 0 hX (k := ?_)
    refine tk 1 hX (k := ?_)
    refine tk 2 hX (k := ?_)
    refine tk 3 hX (k := ?_)
    refine tk 4 hX (k := ?_)
    refine tk 5 hX (k := ?_)
    refine tk 6 hX (k := ?_)
    refine tk 7 hX (k := ?_)
    refine tk 8 hX (k := ?_)
    refine tk 9 hX (k := ?_)
    refine tk 10 hX (k := ?_)
    refine tk 11 hX (k := ?_)
    refine dt 12 hX (k := ?_)
    repeat' (first|(refine bs hs (k:=?_);intro b w hz hs)|refine Nx.h ?_|fail)
    refine dn (k := ?_)
    refine dt 13 hX (k := ?_)
    have hoB := hs.onlyF [] (by simp [y1, y2, y3]) (by simp [D0])
    refine xs_appendW tabOk rfl rfl rfl rfl rfl rfl rfl (by decide) (lit_cells (news := Pr.cells ⟨c.run, n, bd⟩) (hs.get At.head)) (by simp [Value.oneCell']) (q3.keep hoB (by simp)) (by omega) (by omega) ?_
    intro v3 w3 ⟨G3, hG3, hG3n⟩ ho3
    obtain ⟨a3, cp3, rfl⟩ := slv_form hG3
    have d1 : ∀ k ∈ Gp', k ≠ cb ∧ k ≠ rb ∧ k ≠ bY := fun k hk => ⟨fun e => slv_ne q3 y1 (by decide) (e ▸ hk), fun e => slv_ne q3 y3 (by decide) (e ▸ hk), fun e => slv_ne q3 y2 (by decide) (e ▸ hk)⟩
    have z1 := ho3.block (hs.get (b := cb) (o := coreO sb c.run c.carr) (by repeat (first | exact At.head | (with_reducible apply At.tail)))) (fun hm => (d1 _ hm).1 rfl)
    have z2 := ho3.block (hs.get (b := bY) (by repeat (first | exact At.head | (with_reducible apply At.tail)))) (fun hm => (d1 _ hm).2.2 rfl)
    have z3 := ho3.block (hs.get (b := rb) (o := repO vg vp) (by repeat (first | exact At.head | (with_reducible apply At.tail)))) (fun hm => (d1 _ hm).2.1 rfl)
    have hoC3 : Only Gp' w2 w3 := (hoB.weaken (by simp)).step ho3 (fun k hk => .inl hk)
    have hz3 := hoC3.size
    have hzB := hoB.size
    have hoC3' : Only (F2 ++ (rb :: (Gg ++ Gp))) w2 w3 := hoC3.weaken (fun k hk => by
      have : k ∈ rb :: (Gg' ++ Gp') := by simp [hk]
      rw [← eF] at this
      exact List.mem_append_right _ this)
    have hSn : ∀ k ∈ F2, k ∉ Gp' := fun k hk hm => by
      obtain ⟨cs, hc⟩ := slv_at q3 k hm
      exact hS2.not hc rfl hk
    have hS3 := hS2.keepD hoC3 hSn
    have hG3' := q2.keep hoC3 (slv_two q2 q3 (by decide))
    clear hs
    have hs := (((St.nil w3).trackT z1).trackT z2).trackT z3
    repeat' (first|refine Nx.h ?_|fail)
    refine dn (k := ?_)
    refine tk 14 hX (k := ?_)
    refine tk 15 hX (k := ?_)
    refine dt 16 hX (k := ?_)
    repeat' (first|(refine st hs (k:=?_);intro w hs)|refine Nx.h ?_|fail)
    refine dn (k := ?_)
    refine en (k := ?_)
    have f1 := hs.get (b := cb) (o := coreO sb c.run c.carr) (by repeat (first | exact At.head | (with_reducible apply At.tail)))
    have f3 := hs.get (b := rb) (by repeat (first | exact At.head | (with_reducible apply At.tail)))
    have hoD : Only [rb] w3 _ := hs.onlyF [rb] (by simp [z1, z2]) (by simp [D0])
    have n4 : rb ∉ F2 := fun hm => by
      rcases hF2 rb hm with h | h
      · exact n3 h
      · have := lt_of_block r1; omega
    have hS4 := hS3.keepD hoD (fun k hk hm => by obtain rfl := List.mem_singleton.1 hm; exact n4 hk)
    have hG4 := hG3'.keep hoD (fun k hk hm => by obtain rfl := List.mem_singleton.1 hm; exact slv_ne hG3' z3 (by decide) hk)
    have hP4 := hG3.keep hoD (fun k hk hm => by obtain rfl := List.mem_singleton.1 hm; exact slv_ne hG3 z3 (by decide) hk)
    have hR4 : RpAt _ rb ⟨r.g, r.p ++ [⟨c.run, n, bd⟩]⟩ (rb :: (Gg' ++ G3)) := ⟨_, _, Gg', G3, rfl, f3, hG4, by
      unfold SlP; rw [List.length_append, flatPr_snoc]; exact hP4⟩
    have hC4 : CAt _ cb c2 (cb :: F2) := ⟨sb, F2, rfl, by rw [eA]; exact f1, by rw [eA]; exact hS4, by rw [eA]; exact h3, by rw [eA]; exact h4⟩
    have hoE : Only ((cb :: Fs) ++ (rb :: (Gg ++ Gp))) w0 _ := (hoA.step hoC3' (fun k hk => by
      rcases List.mem_append.1 hk with h | h
      · rcases hF2 k h with h | h
        · exact .inl (by simp [h])
        · exact .inr (by omega)
      · exact .inl (List.mem_append_right _ h))).step hoD (fun k hk => .inl (by obtain rfl := List.mem_singleton.1 hk; simp))
    have hF2' : ∀ k ∈ cb :: F2, k ∈ cb :: Fs ∨ w0.heap.size ≤ k := fun k hk => by
      rcases List.mem_cons.1 hk with rfl | hk
      · simp
      · rcases hF2 k hk with h | h
        · exact .inl (by simp [h])
        · exact .inr (by omega)
    have hFr4 : ∀ k ∈ rb :: (Gg' ++ G3), k ∈ rb :: (Gg ++ Gp) ∨ w0.heap.size ≤ k := fun k hk => by
      rw [eF]
      simp only [List.mem_cons, List.mem_append] at hk ⊢
      rcases hk with rfl | hk | hk
      · simp
      · simp [hk]
      · have hzA := hoA.size
        rcases hG3n k hk with h | h
        · simp [h]
        · exact .inr (by omega)
    have hzE := hoE.size
    repeat' (first|refine vs (k:=?_)|refine qRg ?_|refine Nx.h ?_|fail)
    (with_reducible apply xs_call); exact rfl; exact rfl; exact csettle_ret cb rb c2 ⟨r.g, r.p ++ [⟨c.run, n, bd⟩]⟩ _ _ _ hC4 hR4 hg
    rintro v w6 ⟨F6, Fr6, hC6, hR6, hF6, hFr6, ho6⟩
    clear hs
    have hs := St.nil w6
    repeat' (first|refine vs (k:=?_)|refine qRg ?_|refine Nx.h ?_|fail)
    first | refine rt (hq := ?_) | refine rt' (hq := ?_)
    have ho7 := hs.only0 rfl
    refine ⟨rfl, fun _ => ⟨F6, Fr6, hC6.only ho7, by rw [eR]; exact hR6.only ho7, fun k hk => ?_, fun k hk => ?_⟩, (hoE.step ho6 (fun k hk => ?_)).step ho7 (by simp)⟩
    · rcases hF6 k hk with h | h
      · exact hF2' k h
      · exact .inr (by omega)
    · rcases hFr6 k hk with h | h
      · exact hFr4 k h
      · exact .inr (by omega)
    · rcases List.mem_append.1 hk with h | h
      · rcases hF2' k h with h | h
        · exact .inl (List.mem_append_left _ h)
        · exact .inr h
      · rcases hFr4 k h with h | h
        · exact .inl (List.mem_append_right _ h)
        · exact .inr h
  · rw [if_neg he]
    repeat' (first|refine vs (k:=?_)|refine qRg ?_|refine Nx.h ?_|(refine xc_cond rfl (fun hc=>?_) (fun hc=>?_))|fail)
    · first | refine rt (hq := ?_) | refine rt' (hq := ?_)
      have ho6 := hs.onlyF [] (by simp [y1, y2, y3]) (by simp [D0])
      exact ⟨rfl, fun h => absurd h he, hoA.step ho6 (by simp)⟩
    · exact absurd (by simpa using hc) he
end Go.Proofs.YtilajmcellffiaaGreatDoorX

namespace Go.Proofs.YtilajmcellffiaaGreatDoorX
open Go Go.RowKit
attribute [local irreducible] XS XC XA thenE blockE retE loopE loopS cutB cutN doneE SE
def tickN : Nat → Int → Cs → Rp → Int × Cs × Rp
  | 0, _, c, r => (0, c, r)
  | k + 1, left, c, r => if 0 < left ∧ c.run ≠ 0 then (if srvE c left = 0 then tickN k (left - srvN c left) (setC (srvA c left)) (srvR c left r) else (srvE c left, c, r)) else (0, c, r)
def tickC (c : Cs) (ns : Int) : Int × Cs × Rp := if 1 ≤ ns ∧ ns ≤ 1099511627776 then tickN (ns.toNat + 1) ns c .none else (2, c, .none)
theorem srv_step {c : Cs} {most : Int} (hm : U64 most) (h : srvE c most = 0) : 1 ≤ srvN c most ∧ srvN c most ≤ most := by
  obtain ⟨h1, h2⟩ := srvY_eq c most hm
  unfold srvE putE layE at h
  cases k : (srvY c most).1.right with
  | false => rw [k] at h; cases h
  | true =>
    rw [h1] at k
    cases e : srvO c most with
    | none => rw [e] at k; exact absurd k (by decide)
    | some x =>
      unfold srvO serveR at e
      split at e
      · rename_i h3
        have := h2.1
        refine ⟨by have := h3.2.1; omega, ?_⟩
        show lessN most _ ≤ most
        unfold lessN; split <;> omega
      · cases e
theorem tick_len : ∀ (k : Nat) (left : Int) (c : Cs) (r : Rp), r.p.length ≤ (tickN k left c r).2.2.p.length ∧ r.g.length ≤ (tickN k left c r).2.2.g.length
  | 0, _, _, _ => ⟨Nat.le_refl _, Nat.le_refl _⟩
  | k + 1, left, c, r => by
    unfold tickN
    split
    · split
      · have := tick_len k (left - srvN c left) (setC (srvA c left)) (srvR c left r)
        simp only [srvR, List.length_append, List.length_cons, List.length_nil] at this ⊢
        omega
      · exact ⟨Nat.le_refl _, Nat.le_refl _⟩
    · exact ⟨Nat.le_refl _, Nat.le_refl _⟩
set_option maxHeartbeats 8000000 in
theorem tick1_ret (b2 : Nat) (c : Cs) (ns : Int) (wb w0 : World) (hns : U64 ns) (B2 : w0.heap[b2]? = some (.cells #[.int .u64 ns] 22 (0, 0)))
    (hTp : (tickC c ns).2.2.p.length < 1000000) (hTg : (tickC c ns).2.2.g.length ≤ 1000000) :
    DoAt wb w0 210 [.pointer (some ⟨b2, 0, none⟩)] [] (fun _ => True) c (tickC c ns).1 (tickC c ns).2.1 (tickC c ns).2.2 := by
  intro cb rb F hC hR hFn hrb
  have hap := hR.apart hC
  have hs := (St.nil w0).trackT B2
  have eT : tickC c ns = if 1 ≤ ns ∧ ns ≤ 1099511627776 then tickN (ns.toNat + 1) ns c .none else (2, c, .none) := rfl
  generalize tickC c ns = T at *
  have bad : ∀ (w' : World), T = (2, c, .none) → Only [] w0 w' → Value.int .i64 2 = .int .i64 T.1 ∧ True ∧ (T.1 = 0 → ∃ F2 Fr, CAt w' cb T.2.1 F2 ∧ RpAt w' rb T.2.2 Fr ∧ (∀ k ∈ F2, k ∈ F ∨ w0.heap.size ≤ k) ∧ ∀ k ∈ Fr, k = rb ∨ w0.heap.size ≤ k) ∧ Only (rb :: F ++ []) w0 w' := fun w' e ho => by
    subst e; exact ⟨rfl, trivial, fun h => absurd h (show ¬ (2 : Int) = 0 by decide), ho.weaken (by simp)⟩
  refine ret_of_xc Tryz.func210 (by kernel_rfl) rfl Tryz.ntmps210 rfl rfl rfl ?_
  repeat' (first|refine Nx.h ?_|fail)
  refine xc_region ?_ ?_; exact rfl
  refine vs (k := ?_)
  repeat' (first|refine Nx.h ?_|fail)
  refine xc_region ?_ ?_; exact rfl
  refine vs (k := ?_)
  refine vs (k := ?_)
  by_cases c1 : ns < 1
  · rw [if_neg (by omega)] at eT
    rw [decide_eq_true c1]
    repeat' (first|refine vs (k:=?_)|refine ps (k:=?_)|refine qRg ?_|refine Nx.h ?_|refine qCt ?_|fail)
    first | refine rt (hq := ?_) | refine rt' (hq := ?_)
    exact bad _ eT (hs.onlyF [] (by simp [B2]) (by simp [D0]))
  rw [decide_eq_false c1]
  refine vs (k := ?_)
  refine vs (k := ?_)
  refine vs (k := ?_)
  by_cases c2 : ns > 1099511627776
  · rw [if_neg (by omega)] at eT
    rw [decide_eq_true c2]
    repeat' (first|refine vs (k:=?_)|refine qRg ?_|refine Nx.h ?_|refine qCt ?_|fail)
    first | refine rt (hq := ?_) | refine rt' (hq := ?_)
    exact bad _ eT (hs.onlyF [] (by simp [B2]) (by simp [D0]))
  rw [decide_eq_false c2]
  rw [if_pos (by omega)] at eT
  repeat' (first|refine vs (k:=?_)|refine qRg ?_|refine Nx.h ?_|refine qCf ?_|fail)
  have ho := hs.onlyF [] (by simp [B2]) (by simp [D0])
  let Inv (left : Int) (c' : Cs) (r : Rp) (F' Fr : List Nat) (w : World) : Prop := U64 left ∧ (∃ k : Nat, left < k ∧ tickN k left c' r = T) ∧ CAt w cb c' F' ∧ RpAt w rb r Fr ∧ (∀ k ∈ F', k ∈ F ∨ w0.heap.size ≤ k) ∧ (∀ k ∈ Fr, k = rb ∨ w0.heap.size ≤ k) ∧ Only (rb :: F ++ []) w0 w
  refine xc_cutB (fun (_ : Unit) => []) (fun _ w => T.1 = 0 ∧ ∃ F2 Fr, CAt w cb T.2.1 F2 ∧ RpAt w rb T.2.2 Fr ∧ (∀ k ∈ F2, k ∈ F ∨ w0.heap.size ≤ k) ∧ (∀ k ∈ Fr, k = rb ∨ w0.heap.size ≤ k) ∧ Only (rb :: F ++ []) w0 w) ?_ ?_
  · refine xc_loopS (fun (x : Int × Cs × Rp × List Nat × List Nat) => [(0, .pointer (some ⟨cb, 0, none⟩)), (1, .pointer (some ⟨rb, 0, none⟩)), (6, .int .u64 x.1)])
      (fun x w => Inv x.1 x.2.1 x.2.2.1 x.2.2.2.1 x.2.2.2.2 w) (fun x => x.1.toNat) (ns, c, .none, F, [rb]) (by (repeat (first | exact agree_nil | (apply agree_cons; exact rfl)))) ⟨hns, ⟨ns.toNat + 1, by omega, eT.symm⟩, hC.only ho, hR.only ho, fun k hk => .inl hk, fun k hk => .inl (by simpa using hk), ho.weaken (by simp)⟩ fun x env wl hI => ?_
    obtain ⟨left, c', r, F', Fr⟩ := x
    obtain ⟨hl, ⟨k, hk, hT⟩, hC1, hR1, hF1, hFr1, hoW⟩ := hI
    simp only at hl hk hT hC1 hR1 hF1 hFr1
    have hC2 := hC1
    obtain ⟨sb, Fs', rfl, q1, q2, q3, q4⟩ := hC2
    have htl := tick_len k left c' r
    rw [hT] at htl
    clear hs
    have hs := (St.nil wl).trackT q1
    cases k with
    | zero => have := hl.1; omega
    | succ k =>
    unfold tickN at hT
    repeat' (first|refine Nx.h ?_|fail)
    refine xc_region ?_ ?_; exact rfl
    refine vs (k := ?_)
    refine vs (k := ?_)
    by_cases l0 : left > 0
    · rw [decide_eq_true l0]
      by_cases hrun : c'.run = 0
      · rw [if_neg (by omega)] at hT
        subst hT
        have hs0 := hs
        rw [hrun] at hs
        repeat' (first|refine vs (k:=?_)|refine Nx.h ?_|refine qCf ?_|fail)
        have ho := hs.onlyF [] (by simp [q1, hrun]) (by simp [D0])
        exact cutB_exit () (by (repeat (first | exact agree_nil | (apply agree_cons; exact rfl)))) ⟨rfl, _, _, hC1.only ho, hR1.only ho, hF1, hFr1, hoW.step ho (by simp)⟩
      · rw [if_pos ⟨by omega, hrun⟩] at hT
        repeat' (first|refine vs (k:=?_)|refine qRg ?_|refine Nx.h ?_|(refine xc_cond rfl (fun hc=>?_) (fun hc=>?_))|fail)
        · have ho := hs.onlyF [] (by simp [q1]) (by simp [D0])
          have hz := hoW.size
          have hzo := ho.size
          (with_reducible apply xs_call); exact rfl; exact rfl; exact serve_ret cb rb c' left r _ _ _ (hC1.only ho) (hR1.only ho) hl (by omega) (by omega)
          rintro v w3 ⟨rfl, hok, ho3⟩
          have hoX : Only (rb :: F ++ []) w0 w3 := (hoW.step ho (by simp)).step ho3 (fun k hk => by
            rcases List.mem_append.1 hk with h | h
            · rcases hF1 k h with h | h
              · exact .inl (by simp [h])
              · exact .inr h
            · rcases hFr1 k h with h | h
              · exact .inl (by simp [h])
              · exact .inr h)
          clear hs
          have hs := St.nil w3
          by_cases hE : srvE c' left = 0
          · rw [if_pos hE] at hT
            obtain ⟨F2, Fr2, a1, a2, a3, a4⟩ := hok hE
            obtain ⟨s1, s2⟩ := srv_step hl hE
            have ew : IntKind.u64.wrap (left - srvN c' left) = left - srvN c' left := by rw [wrap_u64]; unfold U64 at hl; omega
            rw [hE, if_pos rfl]
            repeat' (first|refine vs (k:=?_)|refine qRg ?_|refine Nx.h ?_|refine qCf ?_|fail)
            refine loopS_next (left - srvN c' left, setC (srvA c' left), srvR c' left r, F2, Fr2) (by show (left - srvN c' left).toNat < left.toNat; omega) (by (repeat (first | exact agree_nil | (apply agree_cons; first | exact rfl | exact congrArg (Value.int .u64) ew | exact congrArg (Value.int .u64) ew)))) ⟨?_, ⟨k, ?_, hT⟩, a1.only (hs.only0 rfl), a2.only (hs.only0 rfl), fun k hk => ?_, fun k hk => ?_, hoX.step (hs.only0 rfl) (by simp)⟩
            · unfold U64 at hl ⊢; simp only; omega
            · simp only; omega
            · rcases a3 k hk with h | h
              · exact hF1 k h
              · exact .inr (by omega)
            · rcases a4 k hk with h | h
              · exact hFr1 k h
              · exact .inr (by omega)
          · rw [if_neg hE] at hT
            subst hT
            rw [if_neg hE]
            generalize srvE c' left = e at *
            repeat' (first|refine vs (k:=?_)|refine qRg ?_|refine Nx.h ?_|(refine xc_cond rfl (fun hc=>?_) (fun hc=>?_))|fail)
            · first | refine rt (hq := ?_) | refine rt' (hq := ?_)
              exact ⟨rfl, trivial, fun h => absurd h hE, hoX.step (hs.only0 rfl) (by simp)⟩
            · exact absurd (by simpa using hc) hE
        · exact absurd (by simpa using hc) hrun
    · rw [if_neg (by omega)] at hT
      subst hT
      rw [decide_eq_false l0]
      repeat' (first|refine vs (k:=?_)|refine ps (k:=?_)|refine Nx.h ?_|refine qCf ?_|fail)
      have ho := hs.onlyF [] (by simp [q1]) (by simp [D0])
      exact cutB_exit () (by (repeat (first | exact agree_nil | (apply agree_cons; exact rfl)))) ⟨rfl, _, _, hC1.only ho, hR1.only ho, hF1, hFr1, hoW.step ho (by simp)⟩
  · clear hs
    rintro _ env w ⟨hT0, F2, Fr, a1, a2, a3, a4, hoX⟩
    have hs := St.nil w
    repeat' (first|refine vs (k:=?_)|refine qRg ?_|refine Nx.h ?_|fail)
    first | refine rt (hq := ?_) | refine rt' (hq := ?_)
    exact ⟨by rw [hT0]; rfl, trivial, fun _ => ⟨F2, Fr, a1.only (hs.only0 rfl), a2.only (hs.only0 rfl), a3, a4⟩, hoX.step (hs.only0 rfl) (by simp)⟩
end Go.Proofs.YtilajmcellffiaaGreatDoorX

namespace Go.Proofs.YtilajmcellffiaaGreatDoorX
open Go Go.RowKit
attribute [local irreducible] XS XC XA thenE blockE retE loopE loopS cutB cutN doneE SE
def Told18 (w0 : World) (cb : Nat) (F : List Nat) (rv : Value) (e : Int) (c c1 : Cs) (r1 : Rp) (w' : World) : Prop :=
  RvAt w' rv (tryR e c1 r1) ∧ (∃ F', CAt w' cb (tryC c e c1) F' ∧ ∀ k ∈ F', k ∈ F ∨ w0.heap.size ≤ k) ∧ Only [cb] w0 w'
set_option maxHeartbeats 4000000 in
theorem tick_ret (cb : Nat) (c : Cs) (F : List Nat) (ns : Int) (w0 : World) (h : CAt w0 cb c F) (hns : U64 ns) (hTp : (tickC c ns).2.2.p.length < 1000000) (hTg : (tickC c ns).2.2.g.length ≤ 1000000) :
    Ret Tryz.prog 162 #[.pointer (some ⟨cb, 0, none⟩), .int .u64 ns] w0 fun v w' => ∃ rv, v = .tuple #[rv, .int .i64 (tickC c ns).1] ∧ Told18 w0 cb F rv (tickC c ns).1 c (tickC c ns).2.1 (tickC c ns).2.2 w' := by
  have hs := St.nil w0
  refine ret_of_xc Tryz.func162 (by kernel_rfl) rfl Tryz.ntmps162 rfl rfl rfl ?_
  refine xc_seq ?_
  refine xc_region ?_ ?_; exact rfl
  refine bx hs (k := ?_); intro b6 w _ hs
  refine al hs (k := ?_); intro b10 w hz hs
  repeat' (first|refine vs (k:=?_)|refine qRg ?_|refine Nx.h ?_|fail)
  have ho := hs.only0 rfl
  have hz := ho.size
  have x6 := hs.get (b := b6) (by repeat (first | exact At.head | (with_reducible apply At.tail)))
  have x10 := hs.get (b := b10) (by repeat (first | exact At.head | (with_reducible apply At.tail)))
  have hCw := h.only ho
  have hb := hs.new _ List.mem_cons_self rfl
  simp only at hb
  (with_reducible apply xs_call); exact rfl; exact rfl; exact try_ret cb c F _ hCw 210 [.pointer (some ⟨b6, 0, none⟩)] [] (fun _ => True) (tickC c ns).1 (tickC c ns).2.1 (tickC c ns).2.2 (fun _ _ _ _ _ _ => trivial) (by simp) hTg (fun w1 ho1 => tick1_ret b6 c ns _ w1 hns (ho1.block x6 (by simp)) hTp hTg)
  rintro v w2 ⟨rv, rfl, _, hRv, ⟨F', hC', hF'⟩, ho2⟩
  obtain ⟨vg, vp, Gg, Gp, rfl, p1, p2⟩ := hRv
  obtain ⟨ag, cg, rfl⟩ := slv_form p1
  obtain ⟨ap, cp, rfl⟩ := slv_form p2
  have x2 := ho2.block x10 (fun hm => by obtain rfl := List.mem_singleton.1 hm; exact hCw.not x10 rfl (by obtain ⟨_, _, rfl, _⟩ := hCw; simp))
  clear hs
  have hs := (St.nil w2).trackT x2
  repeat' (first|refine vs (k:=?_)|(refine stA hs (k:=?_);intro w hs)|refine Nx.h ?_|fail)
  first | refine rt (hq := ?_) | refine rt' (hq := ?_)
  have ho3 : Only [b10] w2 _ := hs.onlyF [b10] (by simp) (by simp [D0])
  exact ⟨_, rfl, ⟨_, _, Gg, Gp, rfl, p1.keep ho3 (fun k hk hm => by obtain rfl := List.mem_singleton.1 hm; exact slv_ne p1 x2 (by decide) hk), p2.keep ho3 (fun k hk hm => by obtain rfl := List.mem_singleton.1 hm; exact slv_ne p2 x2 (by decide) hk)⟩, ⟨F', hC'.keepD ho3 (fun k hk hm => by obtain rfl := List.mem_singleton.1 hm; exact hC'.not x2 rfl hk), fun k hk => by
    rcases hF' k hk with h | h
    · exact .inl h
    · exact .inr (by omega)⟩, ((ho.weaken (by simp)).step ho2 (fun k hk => .inl hk)).step ho3 (fun k hk => .inr (by obtain rfl := List.mem_singleton.1 hk; exact hb))⟩
end Go.Proofs.YtilajmcellffiaaGreatDoorX

namespace Go.Proofs.YtilajmcellffiaaGreatDoorX
open Go Go.RowKit
attribute [local irreducible] XS XC XA thenE blockE retE loopE loopS cutB cutN doneE SE
theorem eqPr (p q : Pr) : (cellEq (.int .i64 p.id) (.int .i64 q.id) && (cellEq (.int .u64 p.ns) (.int .u64 q.ns) && cellEq (.bool p.done) (.bool q.done))) = decide (p = q) := by
  show ((p.id == q.id) && ((p.ns == q.ns) && (p.done == q.done))) = _
  obtain ⟨a, b, c⟩ := p
  obtain ⟨a', b', c'⟩ := q
  simp only [Pr.mk.injEq]
  by_cases h1 : a = a' <;> by_cases h2 : b = b' <;> by_cases h3 : c = c' <;> simp [h1, h2, h3]
set_option maxHeartbeats 4000000 in
theorem eqP_ret (va vb : Value) (A B : List Pr) (hm : A.length ≤ 9223372036854775807) (w0 : World) (hA : LsAt w0 232 3 va (A.map Pr.cells)) (hB : LsAt w0 232 3 vb (B.map Pr.cells)) :
    Ret Tryz.prog 164 #[va, vb] w0 fun v w' => v = .bool (decide (A = B)) ∧ Only [] w0 w' := by
  obtain ⟨ada, ca, rfl, hA⟩ := hA
  obtain ⟨adb, cb, rfl, hB⟩ := hB
  rw [List.length_map] at *
  rw [List.length_map] at *
  have hs := St.nil w0
  refine ret_of_xc Tryz.func164 (by kernel_rfl) rfl Tryz.ntmps164 rfl rfl rfl ?_
  repeat' (first|refine vs (k:=?_)|refine qRg ?_|refine Nx.h ?_|(refine xc_cond rfl (fun hc=>?_) (fun hc=>?_))|fail)
  · first | refine rt (hq := ?_) | refine rt' (hq := ?_)
    refine ⟨congrArg Value.bool ?_, hs.only0 rfl⟩
    have hne : A ≠ B := fun e => by subst e; simp at hc
    exact (decide_eq_false hne).symm
  · have hln : A.length = B.length := by
      have h : ((A.length : Nat) : Int) = B.length := by simpa using hc
      omega
    refine xc_cutB (fun _ : Unit => []) (fun _ w => A = B ∧ Only [] w0 w) ?_ ?_
    · refine xc_loopS (fun (i : Nat) => [(0, .slice ada A.length ca), (1, .slice adb B.length cb), (12, .int .i64 (A.length : Nat)), (13, .int .i64 (i : Nat))])
        (fun i w => i ≤ A.length ∧ A.take i = B.take i ∧ Only [] w0 w)
        (fun i => A.length - i) 0 (by (repeat (first | exact agree_nil | (apply agree_cons; exact rfl)))) ⟨Nat.zero_le _, by simp, hs.only0 rfl⟩ fun i env w ⟨hi, ht, ho⟩ => ?_
      clear hs
      have hs := St.nil w
      repeat' (first|refine vs (k:=?_)|refine qRg ?_|refine Nx.h ?_|(refine xc_if rfl (fun hc=>?_) (fun hc=>?_))|fail)
      · have hlt : i < A.length := by omega
        have hltB : i < B.length := by omega
        obtain ⟨ba, oa, csa, fa, rfl, a2, a3, a4⟩ := hA (fun h => by have := congrArg List.length h; rw [List.length_map, List.length_nil] at this; omega)
        obtain ⟨bb, ob, csb, fb, rfl, b2, b3, b4⟩ := hB (fun h => by have := congrArg List.length h; rw [List.length_map, List.length_nil] at this; omega)
        have ga := a4 i _ (by rw [List.getElem?_map, List.getElem?_eq_getElem hlt]; rfl)
        have gb := b4 i _ (by rw [List.getElem?_map, List.getElem?_eq_getElem hltB]; rfl)
        have a3 := ho.block a3 (by simp)
        have b3 := ho.block b3 (by simp)
        have key : A[i] = B[i] → A.take (i + 1) = B.take (i + 1) := fun he => by rw [List.take_add_one, List.take_add_one, ht, List.getElem?_eq_getElem hlt, List.getElem?_eq_getElem hltB, he]
        have key2 : A[i] ≠ B[i] → A ≠ B := fun h e => h (by subst e; rfl)
        have ei := nx64 hlt hm
        generalize A[i] = x at *
        generalize B[i] = y at *
        by_cases e : ba = bb
        · subst e
          rw [a3] at b3
          cases b3
          replace hs := hs.track a3 (by simp)
          refine dr [] hs (k := ?_); intro hX w hs
          refine tk 0 hX (k := ?_)
          refine tk 1 hX (k := ?_)
          refine tk 2 hX (hr := fun w' hH => r_indexAddr tabOk rfl rfl rfl (by omega) (by omega)) (k := ?_)
          refine tk 3 hX (hr := fun w' hH => r_loadA tabOk rfl rfl (hH rfl) At.head ga) (k := ?_)
          refine tk 4 hX (k := ?_)
          refine tk 5 hX (k := ?_)
          refine tk 6 hX (hr := fun w' hH => r_indexAddr tabOk rfl rfl rfl (by omega) (by omega)) (k := ?_)
          refine tk 7 hX (hr := fun w' hH => r_loadA tabOk rfl rfl (hH rfl) At.head gb) (k := ?_)
          refine tk 8 hX (k := ?_)
          refine en (k := ?_)
          repeat' (first|refine vs (k:=?_)|refine qRg ?_|refine Nx.h ?_|(refine xc_cond rfl (fun hc=>?_) (fun hc=>?_))|fail)
          · rw [eqPr] at hc
            first | refine rt (hq := ?_) | refine rt' (hq := ?_)
            exact ⟨congrArg Value.bool (decide_eq_false (key2 (by simpa using hc))).symm, ho.step (hs.onlyF [] (by simp [a3]) (by simp [D0])) (by simp)⟩
          · rw [eqPr] at hc
            exact loopS_next (i + 1) (by omega) (by (repeat (first | exact agree_nil | (apply agree_cons; first | exact rfl | exact congrArg (Value.int .i64) ei)))) ⟨by omega, key (by simpa using hc), ho.step (hs.onlyF [] (by simp [a3]) (by simp [D0])) (by simp)⟩
        · replace hs := (hs.track a3 (by simp)).track b3 (by simpa using Ne.symm e)
          refine dr [] hs (k := ?_); intro hX w hs
          refine tk 0 hX (k := ?_)
          refine tk 1 hX (k := ?_)
          refine tk 2 hX (hr := fun w' hH => r_indexAddr tabOk rfl rfl rfl (by omega) (by omega)) (k := ?_)
          refine tk 3 hX (hr := fun w' hH => r_loadA tabOk rfl rfl (hH rfl) (At.tail At.head) ga) (k := ?_)
          refine tk 4 hX (k := ?_)
          refine tk 5 hX (k := ?_)
          refine tk 6 hX (hr := fun w' hH => r_indexAddr tabOk rfl rfl rfl (by omega) (by omega)) (k := ?_)
          refine tk 7 hX (hr := fun w' hH => r_loadA tabOk rfl rfl (hH rfl) At.head gb) (k := ?_)
          refine tk 8 hX (k := ?_)
          refine en (k := ?_)
          repeat' (first|refine vs (k:=?_)|refine qRg ?_|refine Nx.h ?_|(refine xc_cond rfl (fun hc=>?_) (fun hc=>?_))|fail)
          · rw [eqPr] at hc
            first | refine rt (hq := ?_) | refine rt' (hq := ?_)
            exact ⟨congrArg Value.bool (decide_eq_false (key2 (by simpa using hc))).symm, ho.step (hs.onlyF [] (by simp [a3, b3]) (by simp [D0])) (by simp)⟩
          · rw [eqPr] at hc
            exact loopS_next (i + 1) (by omega) (by (repeat (first | exact agree_nil | (apply agree_cons; first | exact rfl | exact congrArg (Value.int .i64) ei)))) ⟨by omega, key (by simpa using hc), ho.step (hs.onlyF [] (by simp [a3, b3]) (by simp [D0])) (by simp)⟩
      · have e : i = A.length := by omega
        have hAB : A = B := by
          have h1 : A.take i = A := List.take_of_length_le (by omega)
          have h2 : B.take i = B := List.take_of_length_le (by omega)
          rw [← h1, ht, h2]
        exact cutB_exit () (by (repeat (first | exact agree_nil | (apply agree_cons; exact rfl)))) ⟨hAB, ho.step (hs.only0 rfl) (by simp)⟩
    · rintro _ env w ⟨rfl, ho⟩
      clear hs
      have hs := St.nil w
      repeat' (first|refine vs (k:=?_)|refine qRg ?_|refine Nx.h ?_|fail)
      first | refine rt (hq := ?_) | refine rt' (hq := ?_)
      exact ⟨congrArg Value.bool (decide_eq_true rfl).symm, ho.step (hs.only0 rfl) (by simp)⟩
end Go.Proofs.YtilajmcellffiaaGreatDoorX

namespace Go.Proofs.YtilajmcellffiaaGreatDoorX
open Go Go.RowKit
open IB (IT ITsAt flatT)
attribute [local irreducible] XS XC XA thenE blockE retE loopE loopS cutB cutN doneE SE
def rk : RT := ⟨⟨⟨⟨3, 0, 1⟩, 1, ⟨5242883, 0, 1⟩⟩, 5, 5, false⟩, by decide⟩
theorem k1 : newR ⟨3, 0, 1⟩ 1 5 = some rk.1 := by kernel_rfl
theorem k2 : enterE (newS 0) rk = 0 := by kernel_rfl
theorem k3 : (enterS (newS 0) rk).l = [rk] := by kernel_rfl
theorem k4 : (rouseS (enterS (newS 0) rk) 1 true).l = [wakeR rk true] := by kernel_rfl
theorem k5 : rouseE (enterS (newS 0) rk) 1 = 0 := by kernel_rfl
set_option maxHeartbeats 4000000 in
theorem awake16_ret (w0 : World) (ht : Pows w0) : Ret Tryz.prog 12 #[] w0 fun v w' => v = .bool true ∧ Only [] w0 w' := by
  have hs := St.nil w0
  refine ret_of_xc Tryz.func12 (by kernel_rfl) rfl Tryz.ntmps12 rfl rfl rfl ?_
  repeat' (first|refine vs (k:=?_)|refine qRg ?_|refine Nx.h ?_|fail)
  (with_reducible apply xs_call); exact rfl; exact rfl; exact snew_ret 0 (by decide) _
  rintro v w1 ⟨⟨sb, F0, rfl, hS, hF0⟩, ho1⟩
  have hF0 : ∀ k ∈ F0, w0.heap.size ≤ k := fun k hk => by have := hF0 k hk; have := hs.size; omega
  have hz1 := ho1.size
  have hq := hs.call0 ho1
  have ho1' := hq.only0 rfl
  clear hs hq
  have hs := St.nil w1
  repeat' (first|refine vs (k:=?_)|refine qRg ?_|refine Nx.h ?_|fail)
  (with_reducible apply xs_call); exact rfl; exact rfl; exact runnable_ret sb (newS 0) F0 _ hS (by decide)
  rw [show runN (newS 0).l = 0 from rfl]
  rintro v w2 ⟨rfl, ho2⟩; replace hs := hs.call0 ho2
  repeat' (first|refine vs (k:=?_)|refine qRg ?_|refine Nx.h ?_|refine qCf ?_|fail)
  (with_reducible apply xs_call); exact rfl; exact rfl; exact rnew_ret ⟨3, 0, 1⟩ 1 5 (by decide) (by decide) (by decide) _
  rw [k1]
  rintro v w' ⟨rfl, ho⟩; replace hs := hs.call0 ho; repeat' (first|refine vs (k:=?_)|(refine stA hs (k:=?_);intro w hs)|(refine al hs (k:=?_);intro b w hz hs)|refine qRg ?_|refine Nx.h ?_|fail)
  have hSw := hS.only (hs.only0 rfl)
  have hzw := hs.size
  (with_reducible apply xs_call); exact rfl; exact rfl; exact enter_ret sb (newS 0) F0 rk _ hSw (by decide) (by decide) (by decide)
  rw [k2]
  rintro v w3 ⟨rfl, F1, hS3, hF1, ho3⟩
  replace hs := hs.call ho3 (hSw.apart hs rfl) (by simp [D0])
  have hF1' : ∀ k ∈ F1, w0.heap.size ≤ k := fun k hk => by
    rcases hF1 k hk with h | h
    · exact hF0 k h
    · omega
  have hm : ∀ w', Only (F0 ++ []) w1 w' → Only [] w0 w' := fun w' ho => ho1'.step ho (fun k hk => by
    rw [List.append_nil] at hk
    exact .inr (hF0 k hk))
  have hm2 : ∀ w', Only (F1 ++ (F0 ++ [])) w1 w' → Only [] w0 w' := fun w' ho => ho1'.step ho (fun k hk => by
    rw [List.append_nil, List.mem_append] at hk
    rcases hk with hk | hk
    · exact .inr (hF1' k hk)
    · exact .inr (hF0 k hk))
  have e3 := k3
  have e4 := k4
  have e5 := k5
  generalize enterS (newS 0) rk = s1 at *
  repeat' (first|refine vs (k:=?_)|refine qRg ?_|refine Nx.h ?_|fail)
  (with_reducible apply xs_call); exact rfl; exact rfl; exact Awake15_ret _ (tab_only ht (hm _ hs.only))
  rintro v w4 ⟨rfl, ho4⟩; replace hS3 := hS3.only ho4; replace hs := hs.call0 ho4
  repeat' (first|refine vs (k:=?_)|fail)
  (with_reducible apply xs_call); exact rfl; exact rfl; exact runnable_ret sb s1 F1 _ hS3 (by rw [e3]; decide)
  rw [e3, show runN [rk] = 1 from rfl]
  rintro v w5 ⟨rfl, ho5⟩; replace hS3 := hS3.only ho5; replace hs := hs.call0 ho5
  repeat' (first|refine vs (k:=?_)|fail)
  (with_reducible apply xs_call); exact rfl; exact rfl; exact rouse_ret sb s1 F1 1 true _ hS3 (by decide) (by rw [e3]; decide)
  rw [e5]
  rintro v w6 ⟨rfl, hS6, ho6⟩
  replace hs := hs.call ho6 (hS3.apart hs rfl) (by simp [D0])
  repeat' (first|refine vs (k:=?_)|fail)
  (with_reducible apply xs_call); exact rfl; exact rfl; exact runnable_ret sb (rouseS s1 1 true) F1 _ hS6 (by rw [e4]; decide)
  rw [e4, show runN [wakeR rk true] = 0 from rfl]
  rintro v w7 ⟨rfl, ho7⟩; replace hs := hs.call0 ho7
  repeat' (first|refine vs (k:=?_)|refine Nx.h ?_|fail)
  first | refine rt (hq := ?_) | refine rt' (hq := ?_)
  exact ⟨rfl, hm2 _ hs.only⟩
theorem Awake16_ret (w0 : World) (ht : Pows w0) : Ret Tryz.prog 71 #[] w0 fun v w' => v = .bool true ∧ Only [] w0 w' := by
  have hs := St.nil w0
  refine ret_of_xc Tryz.func71 (by kernel_rfl) rfl Tryz.ntmps71 rfl rfl rfl ?_
  repeat' (first|refine vs (k:=?_)|refine qRg ?_|refine Nx.h ?_|fail)
  (with_reducible apply xs_call); exact rfl; exact rfl; exact awake16_ret _ ht
  rintro v w' ⟨rfl, ho⟩; replace hs := hs.call0 ho; repeat' (first|refine vs (k:=?_)|refine Nx.h ?_|fail)
  first | refine rt (hq := ?_) | refine rt' (hq := ?_)
  exact ⟨rfl, hs.only0 rfl⟩
end Go.Proofs.YtilajmcellffiaaGreatDoorX

namespace Go.Proofs.YtilajmcellffiaaGreatDoorX
open Go Go.RowKit
open IB (IT ITsAt flatT)
attribute [local irreducible] XS XC XA thenE blockE retE loopE loopS cutB cutN doneE SE
def rs : RT := wakeR rk true
def s17 : Ss := enterS (newS 0) rs
def g17 : Gn := ⟨1, 0, rs.1⟩
theorem p1 : enterE (newS 0) rs = 0 := by kernel_rfl
theorem p2 : nextS s17 = some g17 := by kernel_rfl
theorem p3 : s17.q.f 1 = some (itR rs) := by kernel_rfl
theorem p4 : CutOk (itR rs) s17.q.t := fun _ => ⟨by kernel_rfl, by kernel_rfl⟩
theorem p5 : nextS (exitS s17 1) = none := by kernel_rfl
theorem p6 : soonId (exitS s17 1).q = 0 := by kernel_rfl
theorem f17 : Flushes s17 [g17] (exitS s17 1) := .step p2 p3 p4 (.done p5)
set_option maxHeartbeats 4000000 in
theorem awake17_ret (w0 : World) (ht : Pows w0) : Ret Tryz.prog 23 #[] w0 fun v w' => v = .bool true ∧ Only [] w0 w' := by
  have hs := St.nil w0
  refine ret_of_xc Tryz.func23 (by kernel_rfl) rfl Tryz.ntmps23 rfl rfl rfl ?_
  repeat' (first|refine vs (k:=?_)|refine qRg ?_|refine Nx.h ?_|fail)
  (with_reducible apply xs_call); exact rfl; exact rfl; exact snew_ret 0 (by decide) _
  rintro v w1 ⟨⟨sb, F0, rfl, hS, hF0⟩, ho1⟩
  have hF0 : ∀ k ∈ F0, w0.heap.size ≤ k := fun k hk => by have := hF0 k hk; have := hs.size; omega
  have hz1 := ho1.size
  have hq := hs.call0 ho1
  have ho1' := hq.only0 rfl
  clear hs hq
  have hs := St.nil w1
  repeat' (first|refine vs (k:=?_)|refine qRg ?_|refine Nx.h ?_|fail)
  (with_reducible apply xs_call); exact rfl; exact rfl; exact rnew_ret ⟨3, 0, 1⟩ 1 5 (by decide) (by decide) (by decide) _
  rw [k1]
  rintro v w' ⟨rfl, ho⟩; replace hs := hs.call0 ho; repeat' (first|refine vs (k:=?_)|(refine st hs (k:=?_);intro w hs)|(refine stA hs (k:=?_);intro w hs)|(refine al hs (k:=?_);intro b w hz hs)|refine qRg ?_|refine Nx.h ?_|fail)
  have hSw := hS.only (hs.only0 rfl)
  have hzw := hs.size
  (with_reducible apply xs_call); exact rfl; exact rfl; exact enter_ret sb (newS 0) F0 rs _ hSw (by decide) (by decide) (by decide)
  rw [p1, show enterS (newS 0) rs = s17 from rfl]
  rintro v w3 ⟨rfl, F1, hS3, hF1, ho3⟩
  replace hs := hs.call ho3 (hSw.apart hs rfl) (by simp [D0])
  have hF1' : ∀ k ∈ F1, w0.heap.size ≤ k := fun k hk => by
    rcases hF1 k hk with h | h
    · exact hF0 k h
    · omega
  have hoA : Only [] w0 w3 := ho1'.step hs.only (fun k hk => by
    have hk : k ∈ F0 ++ [] := hk
    rw [List.append_nil] at hk
    exact .inr (hF0 k hk))
  have e6 := p6
  have hf := f17
  have hn := (show s17.l.length ≤ 1000000 by decide)
  have hq := (show s17.q.t.list.length ≤ 1000000 by decide)
  generalize s17 = s at *
  generalize exitS s 1 = s' at *
  have hz3 := hoA.size
  clear hs
  have hs := St.nil w3
  repeat' (first|refine vs (k:=?_)|refine qRg ?_|refine Nx.h ?_|refine qCf ?_|fail)
  (with_reducible apply xs_call); exact rfl; exact rfl; exact settle_ret sb s s' [g17] F1 _ hS3 hn hq (by decide) hf
  rw [e6]
  rintro v w4 ⟨sl, rfl, ⟨G, hG, hGn⟩, F2, hS4, hF2, ho4⟩
  have hL := hG.ls (xs := [g17.cells]) rfl rfl (by simp)
  obtain ⟨ad, cap, rfl, hD⟩ := hL
  obtain ⟨bb, off, cs, fz, rfl, _, hbb, hcs⟩ := hD (by simp)
  have hpk := hcs 0 g17.cells rfl
  have hoB : Only [] w0 w4 := hoA.step ho4 (fun k hk => .inr (hF1' k hk))
  clear hs
  have hs := St.nil w4
  repeat' (first|refine vs (k:=?_)|refine qRg ?_|refine Nx.h ?_|fail)
  (with_reducible apply xs_call); exact rfl; exact rfl; exact Awake16_ret _ (tab_only ht hoB)
  rintro v w5 ⟨rfl, ho5⟩
  have hb5 := ho5.block hbb (by simp)
  have hoC := hoB.trans ho5
  clear hs
  have hs := St.nil w5
  repeat' (first|refine vs (k:=?_)|fail)
  refine ix (h0 := (by decide)) (h1 := (by decide)) (k := ?_)
  repeat' (first|refine vs (k:=?_)|fail)
  refine lh hb5 (by cases hpk with | cons h _ => exact h) (k := ?_)
  repeat' (first|refine vs (k:=?_)|fail)
  refine ix (h0 := (by decide)) (h1 := (by decide)) (k := ?_)
  refine vs (k := ?_)
  have hpk2 : Pick cs (off + 1) 2 [.int .i64 0, .int .u64 0] := by
    cases hpk with | cons _ h => cases h with | cons h1 h => cases h with | cons h2 _ => exact .cons h1 (.cons h2 .nil)
  refine lhK hb5 hpk2 (k := ?_)
  skip
  (with_reducible apply xs_call); exact rfl; exact rfl; exact sign_ret 0 (by decide) _
  rintro v w' ⟨rfl, ho⟩; replace hs := hs.call0 ho; repeat' (first|refine vs (k:=?_)|refine Nx.h ?_|fail)
  first | refine rt (hq := ?_) | refine rt' (hq := ?_)
  exact ⟨rfl, hoC.trans (hs.only0 rfl)⟩
end Go.Proofs.YtilajmcellffiaaGreatDoorX

namespace Go.Proofs.YtilajmcellffiaaGreatDoorX
open Go Go.RowKit
attribute [local irreducible] XS XC XA thenE blockE retE loopE loopS cutB cutN doneE SE
def c18a : Cs := tryC (newC 0) (joinC (newC 0) 1 1 2 0).1 (joinC (newC 0) 1 1 2 0).2
def c18b : Cs := tryC c18a (joinC c18a 2 1 2 0).1 (joinC c18a 2 1 2 0).2
theorem a18_1 : (joinC (newC 0) 1 1 2 0).1 = 0 := by kernel_rfl
theorem a18_2 : (joinC c18a 2 1 2 0).1 = 0 := by kernel_rfl
theorem a18_3 : (tickC c18b 4).1 = 0 := by kernel_rfl
theorem a18_4 : (tickC c18b 4).2.2.p = [⟨1, 2, true⟩, ⟨2, 2, true⟩] := by kernel_rfl
theorem a18_5 : (tickC c18b 4).2.2.g.length = 0 := by kernel_rfl
theorem AwakeL17_ret (w0 : World) (ht : Pows w0) : Ret Tryz.prog 163 #[] w0 fun v w' => v = .bool true ∧ Only [] w0 w' := by
  have hs := St.nil w0
  refine ret_of_xc Tryz.func163 (by kernel_rfl) rfl Tryz.ntmps163 rfl rfl rfl ?_
  repeat' (first|refine vs (k:=?_)|refine qRg ?_|refine Nx.h ?_|fail)
  (with_reducible apply xs_call); exact rfl; exact rfl; exact awake17_ret _ (tab_only ht (hs.only0 rfl))
  rintro v w' ⟨rfl, ho⟩; replace hs := hs.call0 ho; repeat' (first|refine vs (k:=?_)|refine Nx.h ?_|fail)
  first | refine rt (hq := ?_) | refine rt' (hq := ?_)
  exact ⟨rfl, hs.only0 rfl⟩
theorem lit_ls {w : World} {b e n k : Nat} {xs : List (List Value)} (hb : w.heap[b]? = some (.cells xs.flatten.toArray e (0, 0))) (hn : xs.length = n) (hk : ∀ x ∈ xs, x.length = k) (hl : xs.flatten.length = n * k) : LsAt w e k (.slice (some ⟨b, 0, none⟩) n n) xs :=
  SlV.ls (n := n) (G := [b]) (.inr ⟨b, n, xs.flatten, rfl, rfl, Nat.le_refl _, hl, hl, by rw [← hl]; exact List.take_length, hb⟩) rfl hn.symm hk
theorem SlP.ls {w : World} {v : Value} {l : List Pr} {G : List Nat} (h : SlP w v l G) : LsAt w 232 3 v (l.map Pr.cells) := SlV.ls h rfl (by simp) (fun x hx => by obtain ⟨p, _, rfl⟩ := List.mem_map.1 hx; rfl)
set_option maxHeartbeats 8000000 in
theorem awake18_ret (w0 : World) (ht : Pows w0) : Ret Tryz.prog 122 #[] w0 fun v w' => v = .bool true ∧ Only [] w0 w' := by
  have hs := St.nil w0
  refine ret_of_xc Tryz.func122 (by kernel_rfl) rfl Tryz.ntmps122 rfl rfl rfl ?_
  repeat' (first|refine vs (k:=?_)|refine qRg ?_|refine Nx.h ?_|fail)
  (with_reducible apply xs_call); exact rfl; exact rfl; exact cnew_ret 0 (by decide) _
  rintro v w1 ⟨⟨cb, F0, rfl, hC, hF0⟩, ho1⟩
  have hz1 := ho1.size
  have hoA := (hs.only0 rfl).trans ho1
  have hF0' : ∀ k ∈ F0, w0.heap.size ≤ k := fun k hk => by have := hF0 k hk; have := (hs.only0 rfl).size; omega
  have hcF : cb ∈ F0 := by obtain ⟨_, _, rfl, _⟩ := hC; simp
  have hcb : w0.heap.size ≤ cb := hF0' cb hcF
  clear hs
  have hs := St.nil w1
  repeat' (first|refine vs (k:=?_)|refine qRg ?_|refine Nx.h ?_|refine qCf ?_|fail)
  (with_reducible apply xs_call); exact rfl; exact rfl; exact join_ret cb (newC 0) F0 1 1 2 0 _ (hC.only (hs.only0 rfl)) (by decide) (by decide) (by decide) (by decide)
  rw [a18_1]
  rintro v w2 ⟨rv, rfl, hRv, ⟨F1, hC1, hF1⟩, ho2⟩
  have hC1 : CAt w2 cb c18a F1 := by have e := a18_1; unfold c18a; rw [e]; exact hC1
  obtain ⟨vg, vp, Gg, Gp, rfl, p1, p2⟩ := hRv
  obtain ⟨ag, cg, rfl⟩ := slv_form p1
  obtain ⟨ap, cp, rfl⟩ := slv_form p2
  have hz2 := (hs.only0 rfl).size
  have hoB : Only [] w0 w2 := (hoA.trans (hs.only0 rfl)).step ho2 (fun k hk => .inr (by obtain rfl := List.mem_singleton.1 hk; exact hcb))
  clear hs
  have hs := St.nil w2
  repeat' (first|refine vs (k:=?_)|(refine stA hs (k:=?_);intro w hs)|(refine al hs (k:=?_);intro b w hz hs)|refine qRg ?_|refine Nx.h ?_|fail)
  (with_reducible apply xs_call); exact rfl; exact rfl; exact join_ret cb c18a F1 2 1 2 0 _ (hC1.only (hs.only0 rfl)) (by decide) (by decide) (by decide) (by decide)
  rw [a18_2]
  rintro v w3 ⟨rv, rfl, hRv, ⟨F2, hC2, hF2⟩, ho3⟩
  have hC2 : CAt w3 cb c18b F2 := by have e := a18_2; unfold c18b; rw [e]; exact hC2
  obtain ⟨vg, vp, Gg, Gp, rfl, p1, p2⟩ := hRv
  obtain ⟨ag, cg, rfl⟩ := slv_form p1
  obtain ⟨ap, cp, rfl⟩ := slv_form p2
  have hz3 := (hs.only0 rfl).size
  have hoC : Only [] w0 w3 := (hoB.trans (hs.only0 rfl)).step ho3 (fun k hk => .inr (by obtain rfl := List.mem_singleton.1 hk; exact hcb))
  clear hs
  have hs := St.nil w3
  repeat' (first|refine vs (k:=?_)|(refine stA hs (k:=?_);intro w hs)|(refine al hs (k:=?_);intro b w hz hs)|refine qRg ?_|refine Nx.h ?_|fail)
  have hpl : (tickC c18b 4).2.2.p.length < 1000000 := by rw [a18_4]; decide
  have hgl : (tickC c18b 4).2.2.g.length ≤ 1000000 := by rw [a18_5]; decide
  (with_reducible apply xs_call); exact rfl; exact rfl; exact tick_ret cb c18b F2 4 _ (hC2.only (hs.only0 rfl)) (by decide) hpl hgl
  rw [a18_3]
  rintro v w4 ⟨rv, rfl, hRv, _, ho4⟩
  obtain ⟨vg, vp, Gg, Gp, rfl, p1, p2⟩ := hRv
  obtain ⟨ag, cg, rfl⟩ := slv_form p1
  have p3 : SlP w4 vp [⟨1, 2, true⟩, ⟨2, 2, true⟩] Gp := by rw [← a18_4]; exact p2
  obtain ⟨ap, cp, rfl⟩ := slv_form p3
  have hz4 := (hs.only0 rfl).size
  have hoD : Only [] w0 w4 := (hoC.trans (hs.only0 rfl)).step ho4 (fun k hk => .inr (by obtain rfl := List.mem_singleton.1 hk; exact hcb))
  clear hs
  have hs := St.nil w4
  repeat' (first|refine vs (k:=?_)|(refine stA hs (k:=?_);intro w hs)|(refine al hs (k:=?_);intro b w hz hs)|refine qRg ?_|refine Nx.h ?_|fail)
  have hoE := hoD.trans (hs.only0 rfl)
  (with_reducible apply xs_call); exact rfl; exact rfl; exact AwakeL17_ret _ (tab_only ht hoE)
  rintro v w' ⟨rfl, ho⟩; replace hs := hs.call0 ho; repeat' (first|refine vs (k:=?_)|(refine bs hs (k:=?_);intro b w hz hs)|fail)
  have hlit := lit_ls (xs := [Pr.cells ⟨1, 2, true⟩, Pr.cells ⟨2, 2, true⟩]) (k := 3) (hs.get At.head) rfl (by decide) rfl
  (with_reducible apply xs_call); exact rfl; exact rfl; exact eqP_ret _ _ [⟨1, 2, true⟩, ⟨2, 2, true⟩] [⟨1, 2, true⟩, ⟨2, 2, true⟩] (by decide) _ ((SlP.ls p3).only (hs.only0 rfl)) hlit
  rw [show decide ([(⟨1, 2, true⟩ : Pr), ⟨2, 2, true⟩] = [⟨1, 2, true⟩, ⟨2, 2, true⟩]) = true by decide]
  rintro v w' ⟨rfl, ho⟩; replace hs := hs.call0 ho; repeat' (first|refine vs (k:=?_)|refine Nx.h ?_|fail)
  first | refine rt (hq := ?_) | refine rt' (hq := ?_)
  exact ⟨rfl, hoD.trans (hs.only0 rfl)⟩
theorem Awake18_ret (w0 : World) (ht : Pows w0) : Ret Tryz.prog 78 #[] w0 fun v w' => v = .bool true ∧ Only [] w0 w' := by
  have hs := St.nil w0
  refine ret_of_xc Tryz.func78 (by kernel_rfl) rfl Tryz.ntmps78 rfl rfl rfl ?_
  repeat' (first|refine vs (k:=?_)|refine qRg ?_|refine Nx.h ?_|fail)
  (with_reducible apply xs_call); exact rfl; exact rfl; exact awake18_ret _ (tab_only ht (hs.only0 rfl))
  rintro v w' ⟨rfl, ho⟩; replace hs := hs.call0 ho; repeat' (first|refine vs (k:=?_)|refine Nx.h ?_|fail)
  first | refine rt (hq := ?_) | refine rt' (hq := ?_)
  exact ⟨rfl, hs.only0 rfl⟩
end Go.Proofs.YtilajmcellffiaaGreatDoorX
