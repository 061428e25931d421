/- Proved: law17.SettleShifts returns true for every clock, every shift and every slice of acts, and its arguments read as before; no conditions -/
import Derived.Test.YtdkmhjiojealoaaGreatDoorA10
import Derived.Test.YtdkmhjiojealoaaGreatDoorCards
import Derived.SevenTiedAt
set_option linter.unusedVariables false
set_option linter.unusedSimpArgs false
set_option maxRecDepth 100000
namespace Go.Proofs.YtdkmhjiojealoaaGreatDoorX
open Go Go.RowKit
open IB (IT ITsAt flatT)
attribute [local irreducible] XS XC XA thenE blockE retE loopE loopS cutB cutN doneE SE
def rs : RT := wakeR rk true
def s17 : Ss := enterS (newS 0) rs
def g17 : Gn := ⟨1, 0, rs.1⟩
theorem p1 : enterE (newS 0) rs = 0 := by kernel_rfl
theorem p2 : nextS s17 = some g17 := by kernel_rfl
theorem p3 : s17.q.f 1 = some (itR rs) := by kernel_rfl
theorem p4 : CutOk (itR rs) s17.q.t := fun _ => ⟨by kernel_rfl, by kernel_rfl⟩
theorem p5 : nextS (exitS s17 1) = none := by kernel_rfl
theorem p6 : soonId (exitS s17 1).q = 0 := by kernel_rfl
theorem f17 : Flushes s17 [g17] (exitS s17 1) := .step p2 p3 p4 (.done p5)
set_option maxHeartbeats 4000000 in
theorem awake17_ret (w0 : World) (ht : Pows w0) : Ret Tryz.prog 5 #[] w0 fun v w' => v = .bool true ∧ Only [] w0 w' := by
  have hs := St.nil w0
  refine ret_of_xc Tryz.func5 (by kernel_rfl) rfl Tryz.ntmps5 rfl rfl rfl ?_
  repeat' (first|refine vs (k:=?_)|refine qRg ?_|refine Nx.h ?_|fail)
  (with_reducible apply xs_call); exact rfl; exact rfl; exact snew_ret 0 (by decide) _
  rintro v w1 ⟨⟨sb, F0, rfl, hS, hF0⟩, ho1⟩
  have hF0 : ∀ k ∈ F0, w0.heap.size ≤ k := fun k hk => by have := hF0 k hk; have := hs.size; omega
  have hz1 := ho1.size
  have hq := hs.call0 ho1
  have ho1' := hq.only0 rfl
  clear hs hq
  have hs := St.nil w1
  repeat' (first|refine vs (k:=?_)|refine qRg ?_|refine Nx.h ?_|fail)
  (with_reducible apply xs_call); exact rfl; exact rfl; exact rnew_ret ⟨3, 0, 1⟩ 1 5 (by decide) (by decide) (by decide) _
  rw [k1]
  rintro v w' ⟨rfl, ho⟩; replace hs := hs.call0 ho; repeat' (first|refine vs (k:=?_)|(refine st hs (k:=?_);intro w hs)|(refine stA hs (k:=?_);intro w hs)|(refine al hs (k:=?_);intro b w hz hs)|refine qRg ?_|refine Nx.h ?_|fail)
  have hSw := hS.only (hs.only0 rfl)
  have hzw := hs.size
  (with_reducible apply xs_call); exact rfl; exact rfl; exact enter_ret sb (newS 0) F0 rs _ hSw (by decide) (by decide) (by decide)
  rw [p1, show enterS (newS 0) rs = s17 from rfl]
  rintro v w3 ⟨rfl, F1, hS3, hF1, ho3⟩
  replace hs := hs.call ho3 (hSw.apart hs rfl) (by simp [D0])
  have hF1' : ∀ k ∈ F1, w0.heap.size ≤ k := fun k hk => by
    rcases hF1 k hk with h | h
    · exact hF0 k h
    · omega
  have hoA : Only [] w0 w3 := ho1'.step hs.only (fun k hk => by
    have hk : k ∈ F0 ++ [] := hk
    rw [List.append_nil] at hk
    exact .inr (hF0 k hk))
  have e6 := p6
  have hf := f17
  have hn := (show s17.l.length ≤ 1000000 by decide)
  have hq := (show s17.q.t.list.length ≤ 1000000 by decide)
  generalize s17 = s at *
  generalize exitS s 1 = s' at *
  have hz3 := hoA.size
  clear hs
  have hs := St.nil w3
  repeat' (first|refine vs (k:=?_)|refine qRg ?_|refine Nx.h ?_|refine qCf ?_|fail)
  (with_reducible apply xs_call); exact rfl; exact rfl; exact settle_ret sb s s' [g17] F1 _ hS3 hn hq (by decide) hf
  rw [e6]
  rintro v w4 ⟨sl, rfl, ⟨G, hG, hGn⟩, F2, hS4, hF2, ho4⟩
  have hL := hG.ls (xs := [g17.cells]) rfl rfl (by simp)
  obtain ⟨ad, cap, rfl, hD⟩ := hL
  obtain ⟨bb, off, cs, fz, rfl, _, hbb, hcs⟩ := hD (by simp)
  have hpk := hcs 0 g17.cells rfl
  have hoB : Only [] w0 w4 := hoA.step ho4 (fun k hk => .inr (hF1' k hk))
  clear hs
  have hs := St.nil w4
  repeat' (first|refine vs (k:=?_)|refine qRg ?_|refine Nx.h ?_|fail)
  (with_reducible apply xs_call); exact rfl; exact rfl; exact Awake16_ret _ (tab_only ht hoB)
  rintro v w5 ⟨rfl, ho5⟩
  have hb5 := ho5.block hbb (by simp)
  have hoC := hoB.trans ho5
  clear hs
  have hs := St.nil w5
  repeat' (first|refine vs (k:=?_)|fail)
  refine ix (h0 := (by decide)) (h1 := (by decide)) (k := ?_)
  repeat' (first|refine vs (k:=?_)|fail)
  refine lh hb5 (by cases hpk with | cons h _ => exact h) (k := ?_)
  repeat' (first|refine vs (k:=?_)|fail)
  refine ix (h0 := (by decide)) (h1 := (by decide)) (k := ?_)
  refine vs (k := ?_)
  have hpk2 : Pick cs (off + 1) 2 [.int .i64 0, .int .u64 0] := by
    cases hpk with | cons _ h => cases h with | cons h1 h => cases h with | cons h2 _ => exact .cons h1 (.cons h2 .nil)
  refine lhK hb5 hpk2 (k := ?_)
  skip
  (with_reducible apply xs_call); exact rfl; exact rfl; exact sign_ret 0 (by decide) _
  rintro v w' ⟨rfl, ho⟩; replace hs := hs.call0 ho; repeat' (first|refine vs (k:=?_)|refine Nx.h ?_|fail)
  first | refine rt (hq := ?_) | refine rt' (hq := ?_)
  exact ⟨rfl, hoC.trans (hs.only0 rfl)⟩
theorem Awake17_ret (w0 : World) (ht : Pows w0) : Ret Tryz.prog 5 #[] w0 fun v w' => v = .bool true ∧ Only [] w0 w' := awake17_ret w0 ht
end Go.Proofs.YtdkmhjiojealoaaGreatDoorX

namespace Go.Proofs.YtdkmhjiojealoaaGreatDoorX
open Go Go.RowKit
attribute [local irreducible] XS XC XA thenE blockE retE loopE loopS cutB cutN doneE SE
theorem pick_get {cs : List Value} {off m : Nat} {vs : List Value} (h : Pick cs off m vs) : ∀ (j : Nat) v, vs[j]? = some v → cs[off + j]? = some v := by
  induction h with
  | nil => intro j v e; simp at e
  | @cons off m v vs h1 _ ih =>
    intro j u e
    cases j with
    | zero => simp at e; subst e; exact h1
    | succ j =>
      have := ih j u (by simpa using e)
      rw [show off + (j + 1) = off + 1 + j by omega]; exact this
theorem neW (x : Int) : (!(cellEq (.int .i64 (x / 18446744073709551616)) (.int .i64 (x / 18446744073709551616)) && cellEq (.int .u64 (x % 18446744073709551616)) (.int .u64 (x % 18446744073709551616)))) = false := by
  show (!((x / 18446744073709551616 == x / 18446744073709551616) && (x % 18446744073709551616 == x % 18446744073709551616))) = false
  simp
theorem flushN_le : ∀ (n : Nat) (A : As), (flushN n A).1.length ≤ n
  | 0, A => Nat.le_refl _
  | n + 1, A => by
    unfold flushN
    cases A.l.find? (goesA A) with
    | none => exact Nat.zero_le _
    | some a => have := flushN_le n (extA A (idR a)); show (flushN n (extA A (idR a))).1.length + 1 ≤ n + 1; omega
set_option maxHeartbeats 16000000 in
theorem settleShifts_ret (c t : Int) (xs : List Ac16) (sl : Value) (hc0 : U64 c) (ht0 : U64 t) (hx : ∀ a ∈ xs, a.In) (w0 : World) (hL : LsX w0 11 sl (xs.map Ac16.cells)) (ht : Pows w0) : Ret Tryz.prog 3 #[.int .u64 c, .int .u64 t, sl] w0 fun v w' => v = .bool true ∧ Only [] w0 w' := by
  obtain ⟨ad, cap, rfl, hD⟩ := hL
  rw [List.length_map]
  have hs := St.nil w0
  refine ret_of_xc Tryz.func3 (by kernel_rfl) rfl Tryz.ntmps3 rfl rfl rfl ?_
  repeat' (first|refine vs (k:=?_)|refine qRg ?_|refine Nx.h ?_|fail)
  (with_reducible apply xs_call); exact rfl; exact rfl; exact awake17_ret _ (tab_only ht (hs.only0 rfl))
  rintro v w' ⟨rfl, ho⟩; replace hs := hs.call0 ho; repeat' (first|refine vs (k:=?_)|refine qRg ?_|refine Nx.h ?_|refine qCf ?_|(refine xc_if rfl (fun hc=>?_) (fun hc=>?_))|fail)
  · first | refine rt (hq := ?_) | refine rt' (hq := ?_)
    exact ⟨rfl, hs.only0 rfl⟩
  have hm : xs.length ≤ 40 := by omega
  (with_reducible apply xs_call); exact rfl; exact rfl; exact anew_ret c hc0 _
  rintro v w1 ⟨⟨sb, F1, rfl, hS1, hF1⟩, ho1⟩
  have hoA := (hs.only0 rfl).trans ho1
  have hz := (hs.only0 rfl).size
  have hz1 := ho1.size
  clear hs
  have hs := St.nil w1
  iterate 3 refine vs (k := ?_)
  rw [wrap_lat]
  (with_reducible apply xs_call); exact rfl; exact rfl; exact anew_ret (lat c t) (lat_in _ _) _
  rintro v w2 ⟨⟨ub, G1, rfl, hU1, hG1⟩, ho2⟩
  have hlt1 := hS1.lt
  have hT0 : TwoS w0 sb ub ⟨[], c⟩ (shA t ⟨[], c⟩) F1 G1 w2 := ⟨hS1.only ho2, hU1, fun k hk hm => by have := hG1 k hm; have := hlt1 k hk; omega, fun k hk => by have := hF1 k hk; omega, fun k hk => by have := hG1 k hk; omega, hoA.trans ho2⟩
  clear hs
  have hs := St.nil w2
  repeat' (first|refine vs (k:=?_)|refine qRg ?_|refine Nx.h ?_|fail)
  refine xc_cutB (fun (_ : List Nat × List Nat) => [(7, .int .u64 t), (8, .pointer (some ⟨sb, 0, none⟩)), (9, .pointer (some ⟨ub, 0, none⟩))]) (fun x w => TwoS w0 sb ub (entsS ⟨[], c⟩ xs) (shA t (entsS ⟨[], c⟩ xs)) x.1 x.2 w) ?_ ?_
  · refine xc_loopS (fun (x : Nat × List Nat × List Nat) => [(7, .int .u64 t), (8, .pointer (some ⟨sb, 0, none⟩)), (9, .pointer (some ⟨ub, 0, none⟩)), (31, .slice ad xs.length cap), (32, .int .i64 (xs.length : Nat)), (33, .int .i64 (x.1 : Nat))])
      (fun x w => x.1 ≤ xs.length ∧ TwoS w0 sb ub (entsS ⟨[], c⟩ (xs.take x.1)) (shA t (entsS ⟨[], c⟩ (xs.take x.1))) x.2.1 x.2.2 w) (fun x => xs.length - x.1) (0, F1, G1) (by (repeat (first | exact agree_nil | (apply agree_cons; exact rfl)))) ⟨Nat.zero_le _, hT0.keep (hs.only0 rfl)⟩ fun x env wl ⟨hi, hT⟩ => ?_
    obtain ⟨i, F, G⟩ := x
    simp only at hi hT
    clear hs
    have hs := St.nil wl
    repeat' (first|refine vs (k:=?_)|refine qRg ?_|refine Nx.h ?_|(refine xc_if rfl (fun hc=>?_) (fun hc=>?_))|fail)
    · have hlt : i < xs.length := by omega
      obtain ⟨b, off, cs, E, fz, rfl, hb, hcs⟩ := hD (fun h => by have := congrArg List.length h; rw [List.length_map, List.length_nil] at this; omega)
      have hpk := hcs i (Ac16.cells xs[i]) (by rw [List.getElem?_map, List.getElem?_eq_getElem hlt]; rfl)
      have ei := nx64 (m := xs.length) hlt (by omega)
      have eA : entsS ⟨[], c⟩ (xs.take (i + 1)) = entA (entsS ⟨[], c⟩ (xs.take i)) xs[i].r := by rw [take_next hlt, entsS_snoc]
      generalize xs[i] = q at *
      generalize entsS ⟨[], c⟩ (xs.take i) = A at *
      refine ix (h0 := (by omega)) (h1 := (by omega)) (k := ?_)
      refine lhK (vs := q.cells) (hT.o.block hb (by simp)) hpk (k := ?_)
      refine al hs (k := ?_); clear hs; intro b11 w3 hz3 hs
      refine stA hs (k := ?_); clear hs; intro w4 hs
      have h11 := hs.get (b := b11) (by repeat (first | exact At.head | (with_reducible apply At.tail)))
      have g11 := hs.new (b11, true) (by simp) rfl
      simp only at g11
      have ltF := hT.a.lt
      have f11 : b11 ∉ F := fun h => by have := ltF b11 h; omega
      have ho4 := hs.only0 rfl
      repeat' (first|refine vs (k:=?_)|refine qRg ?_|refine Nx.h ?_|fail)
      (with_reducible apply xs_call); exact rfl; exact rfl; exact aenter_ret sb A F q.r _ (hT.keep (hs.only0 rfl)).a
      rintro v w8 ⟨rfl, hl⟩
      obtain ⟨F', hT8⟩ := (hT.keep (hs.only0 rfl)).left hl
      obtain ⟨_, _, _, ho9⟩ := hl
      have j11 := ho9.block (hs.get (b := b11) (by repeat (first | exact At.head | (with_reducible apply At.tail)))) f11
      clear hs
      have hs := (St.nil w8).track j11 (by simp)
      repeat' (first|refine vs (k:=?_)|(refine stA hs (k:=?_);intro w hs)|(refine al hs (k:=?_);intro b w hz hs)|refine qRg ?_|refine Nx.h ?_|fail)
      (with_reducible apply xs_call); exact rfl; exact rfl; exact ishift_ret q.r.1.i t _
      rintro v w' ⟨rfl, ho⟩; replace hs := hs.call0 ho; repeat' (first|refine vs (k:=?_)|(refine stA hs (k:=?_);intro w hs)|refine qRg ?_|refine Nx.h ?_|fail)
      have ho10 := hs.onlyF [] (by simp [j11]) (by simp [D0])
      (with_reducible apply xs_call); exact rfl; exact rfl; exact aenter_ret ub (shA t A) G (shR t q.r) _ (hT8.keep ho10).b
      rintro v w9 ⟨rfl, hl2⟩
      obtain ⟨G', hT9⟩ := (hT8.keep ho10).right hl2
      clear hs
      have hs := St.nil w9
      repeat' (first|refine vs (k:=?_)|refine qRg ?_|refine Nx.h ?_|fail)
      refine loopS_next (i + 1, F', G') (by show xs.length - (i + 1) < xs.length - i; omega) (by (repeat (first | exact agree_nil | (apply agree_cons; first | exact rfl | exact congrArg (Value.int .i64) ei)))) ⟨by show i + 1 ≤ _; omega, ?_⟩
      show TwoS w0 sb ub (entsS ⟨[], c⟩ (xs.take (i + 1))) (shA t (entsS ⟨[], c⟩ (xs.take (i + 1)))) F' G' _
      rw [eA, ← entA_sh]
      exact hT9.keep (hs.only0 rfl)
    · have e : i = xs.length := by omega
      subst e
      rw [List.take_length] at hT
      exact cutB_exit (F, G) (by (repeat (first | exact agree_nil | (apply agree_cons; exact rfl)))) hT
  clear hs hT0 hS1 hU1
  rintro ⟨F, G⟩ env w3 hT
  simp only at hT
  generalize entsS ⟨[], c⟩ xs = A at *
  have hA32 : A.l.length ≤ 32 := by obtain ⟨s, h⟩ := hT.a.rep; exact h.le
  have hs := St.nil w3
  repeat' (first|refine vs (k:=?_)|refine qRg ?_|refine Nx.h ?_|fail)
  (with_reducible apply xs_call); exact rfl; exact rfl; exact asettle_ret sb A F _ (hT.keep (hs.only0 rfl)).a
  have e1 : (flushA (shA t A)).1 = (flushA A).1.map (shG t) := by rw [flush_sh]
  have e2 : (flushA (shA t A)).2 = shA t (flushA A).2 := by rw [flush_sh]
  have hgl : (flushA A).1.length ≤ 32 := by have := flushN_le A.l.length A; unfold flushA; omega
  rintro v w4 ⟨slx, rfl, ⟨Gx, hGx, hGn⟩, hl⟩
  obtain ⟨F', hT4⟩ := (hT.keep (hs.only0 rfl)).left hl
  have ltG := (hT.keep (hs.only0 rfl)).b.lt
  clear hs
  have hs := St.nil w4
  repeat' (first|refine vs (k:=?_)|refine qRg ?_|refine Nx.h ?_|fail)
  (with_reducible apply xs_call); exact rfl; exact rfl; exact asettle_ret ub (shA t A) G _ (hT4.keep (hs.only0 rfl)).b
  rw [run1_sh]
  rintro v w5 ⟨sly, rfl, ⟨Gy, hGy, hGn2⟩, hl2⟩
  rw [e1, List.length_map] at hGy
  rw [e2] at hl2
  obtain ⟨G', hT5⟩ := (hT4.keep (hs.only0 rfl)).right hl2
  obtain ⟨_, _, _, ho5⟩ := hl2
  have hGx5 := (hGx.keep (hs.only0 rfl) (by simp)).keep ho5 (fun k hk hm => by have := hGn k hk; have := ltG k hm; omega)
  generalize (flushA A).2 = B at *
  generalize (flushA A).1 = L at *
  obtain ⟨ad1, cp1, rfl, hD1⟩ := SlV.ls hGx5 (xs := L.map Gn.cells) rfl (List.length_map _).symm (fun x hx => by obtain ⟨y, _, rfl⟩ := List.mem_map.1 hx; rfl)
  obtain ⟨ad2, cp2, rfl, hD2⟩ := SlV.ls hGy (xs := (L.map (shG t)).map Gn.cells) rfl (by rw [List.length_map, List.length_map]) (fun x hx => by obtain ⟨y, _, rfl⟩ := List.mem_map.1 hx; rfl)
  rw [List.length_map] at *
  rw [List.length_map] at *
  rw [List.length_map] at *
  obtain ⟨qb, mb, p1, hQ1⟩ := hT5.a.opn
  obtain ⟨qc, mc, p2, hQ2⟩ := hT5.b.opn
  have nub : ub ≠ sb := fun k => hT5.d sb hT5.a.mem2 (k ▸ hT5.b.mem2)
  clear hs
  have hs := ((St.nil w5).track p1 (by simp)).track p2 (by simpa using nub)
  repeat' (first|refine vs (k:=?_)|refine Nx.h ?_|fail)
  refine dr [] hs (k := ?_); intro hX w hs
  refine tk 0 hX (k := ?_)
  refine tk 1 hX (k := ?_)
  refine tk 2 hX (k := ?_)
  refine xa_set 64 (v := .bool false) (congrArg Value.bool (show (run1 A != run1 A) = false by simp)) ?_
  refine tk 3 hX (k := ?_)
  refine tk 4 hX (k := ?_)
  refine tk 5 hX (k := ?_)
  refine tk 6 hX (k := ?_)
  refine tk 7 hX (k := ?_)
  refine tk 8 hX (k := ?_)
  refine xa_set 70 (v := .bool false) (congrArg Value.bool (show (((L.length : Nat) : Int) != ((L.length : Nat) : Int)) = false by simp)) ?_
  refine tk 9 hX (k := ?_)
  refine tk 10 hX (k := ?_)
  refine tk 11 hX (k := ?_)
  refine tk 12 hX (k := ?_)
  refine tk 13 hX (k := ?_)
  refine tk 14 hX (k := ?_)
  refine tk 16 hX (k := ?_)
  refine tk 17 hX (k := ?_)
  refine tk 18 hX (k := ?_)
  refine tk 19 hX (k := ?_)
  refine tk 21 hX (k := ?_)
  refine dt 15 hX (k := ?_)
  have hog := hs.onlyF [] (by simp [p1, p2]) (by simp [D0])
  (with_reducible apply xs_call); exact rfl; exact rfl; exact anow_ret qc (shA t B) _ (hQ2.only hog)
  rw [now_sh]
  rintro v15 w15 ⟨rfl, hoh⟩; replace hs := hs.call0 hoh
  refine XS.nil ?_
  refine dn (k := ?_)
  refine dt 20 hX (k := ?_)
  have hoi := hs.onlyF [] (by simp [p1, p2]) (by simp [D0])
  (with_reducible apply xs_call); exact rfl; exact rfl; exact anow_ret qb B _ (hQ1.only hoi)
  rintro v16 w16 ⟨rfl, hoj⟩; replace hs := hs.call0 hoj
  refine XS.nil ?_
  refine dn (k := ?_)
  refine tk 22 hX (k := ?_)
  refine tk 23 hX (k := ?_)
  refine xa_set 85 (v := .bool false) (congrArg Value.bool (show (lat (nowA B) t != IntKind.u64.wrap (nowA B + t)) = false by rw [wrap_lat]; simp)) ?_
  refine tk 24 hX (k := ?_)
  refine en (k := ?_)
  repeat' (first|refine vs (k:=?_)|refine qRg ?_|refine Nx.h ?_|refine qCf ?_|fail)
  refine xc_cutB (fun (_ : Unit) => []) (fun _ w => Only [] w5 w) ?_ ?_
  · refine xc_loopS (fun (i : Nat) => [(15, .slice ad2 L.length cp2), (87, .slice ad1 L.length cp1), (88, .int .i64 (L.length : Nat)), (89, .int .i64 (i : Nat))]) (fun i w => i ≤ L.length ∧ Only [] w5 w) (fun i => L.length - i) 0 (by (repeat (first | exact agree_nil | (apply agree_cons; exact rfl)))) ⟨Nat.zero_le _, hs.onlyF [] (by simp [p1, p2]) (by simp [D0])⟩ fun i env wl ⟨hi, hol⟩ => ?_
    clear hs
    have hs := St.nil wl
    repeat' (first|refine vs (k:=?_)|refine qRg ?_|refine Nx.h ?_|(refine xc_if rfl (fun hc=>?_) (fun hc=>?_))|fail)
    · have hlt : i < L.length := by omega
      obtain ⟨b, off, cs, fz, hab, _, hb, hcs⟩ := hD1 (fun h => by rw [List.map_eq_nil_iff.1 h] at hlt; cases hlt)
      obtain ⟨b', off', cs', fz', hab2, _, hb2, hcs2⟩ := hD2 (fun h => by rw [List.map_eq_nil_iff.1 (List.map_eq_nil_iff.1 h)] at hlt; cases hlt)
      have hpk := hcs i (Gn.cells L[i]) (by rw [List.getElem?_map, List.getElem?_eq_getElem hlt]; rfl)
      have hpk2 := hcs2 i (Gn.cells (shG t L[i])) (by rw [List.getElem?_map, List.getElem?_map, List.getElem?_eq_getElem hlt]; rfl)
      have ei := nx64 (m := L.length) hlt (by omega)
      generalize L[i] = g at *
      rw [hab, hab2]
      have lb2 := lt_of_block (hol.block hb2 (by simp))
      refine ix (h0 := (by omega)) (h1 := (by omega)) (k := ?_)
      refine lhK (vs := g.cells) (hol.block hb (by simp)) hpk (k := ?_)
      refine al hs (k := ?_); clear hs; intro b18 w7 hz7 hs
      refine vs (k := ?_)
      refine stA hs (k := ?_); clear hs; intro w8 hs
      have g18 := hs.new (b18, true) (by simp) rfl
      simp only at g18
      have ho8 := hs.only0 rfl
      have hb8 := ho8.block (hol.block hb2 (by simp)) (by simp)
      have hs := hs.track hb8 (by simp; omega)
      have c0 := pick_get hpk2 0 _ rfl
      have c1 := pick_get hpk2 1 _ rfl
      have c2 := pick_get hpk2 2 _ rfl
      have c10 := pick_get hpk2 10 _ rfl
      repeat' (first|refine Nx.h ?_|fail)
      refine dr [] hs (k := ?_); intro hX w hs
      refine tk 0 hX (k := ?_)
      refine tk 1 hX (k := ?_)
      refine tk 2 hX (k := ?_)
      refine tk 3 hX (k := ?_)
      refine tk 4 hX (hr := fun w' hH => r_indexAddr tabOk rfl rfl rfl (by omega) (by omega)) (k := ?_)
      refine tk 5 hX (k := ?_)
      refine tk 6 hX (hr := fun w' hH => r_load tabOk rfl rfl (hH rfl) At.head c0) (k := ?_)
      refine tk 7 hX (k := ?_)
      refine xa_set 101 (v := .bool false) (congrArg Value.bool (show (g.id != g.id) = false by simp)) ?_
      refine tk 8 hX (k := ?_)
      refine tk 9 hX (k := ?_)
      refine tk 10 hX (k := ?_)
      refine tk 11 hX (k := ?_)
      refine tk 12 hX (k := ?_)
      refine tk 13 hX (hr := fun w' hH => r_indexAddr tabOk rfl rfl rfl (by omega) (by omega)) (k := ?_)
      refine tk 14 hX (k := ?_)
      refine tk 15 hX (hr := fun w' hH => r_loadA tabOk rfl rfl (hH rfl) At.head (Pick.cons c1 (Pick.cons c2 Pick.nil))) (k := ?_)
      refine tk 16 hX (k := ?_)
      refine xa_set 110 (v := .bool false) (congrArg Value.bool (neW g.lag)) ?_
      refine tk 17 hX (k := ?_)
      refine tk 18 hX (k := ?_)
      refine tk 19 hX (k := ?_)
      refine tk 20 hX (k := ?_)
      refine tk 21 hX (k := ?_)
      refine tk 22 hX (k := ?_)
      refine tk 23 hX (k := ?_)
      refine tk 24 hX (hr := fun w' hH => r_indexAddr tabOk rfl rfl rfl (by omega) (by omega)) (k := ?_)
      refine tk 25 hX (k := ?_)
      refine tk 26 hX (k := ?_)
      refine tk 27 hX (hr := fun w' hH => r_load tabOk rfl rfl (hH rfl) At.head c10) (k := ?_)
      refine tk 28 hX (k := ?_)
      refine xa_set 122 (v := .bool false) (congrArg Value.bool (show (g.r.left != g.r.left) = false by simp)) ?_
      refine tk 29 hX (k := ?_)
      refine en (k := ?_)
      repeat' (first|refine vs (k:=?_)|refine qRg ?_|refine Nx.h ?_|refine qCf ?_|fail)
      exact loopS_next (i + 1) (by show L.length - (i + 1) < L.length - i; omega) (by (repeat (first | exact agree_nil | (apply agree_cons; first | exact rfl | exact congrArg (Value.int .i64) ei)))) ⟨by show i + 1 ≤ _; omega, hol.trans (hs.onlyF [] (by simp [hol.block hb2 (by simp)]) (by simp [D0]))⟩
    · exact cutB_exit () (by (repeat (first | exact agree_nil | (apply agree_cons; exact rfl)))) hol
  · rintro _ env w ho
    clear hs
    have hs := St.nil w
    repeat' (first|refine vs (k:=?_)|refine qRg ?_|refine Nx.h ?_|fail)
    first | refine rt (hq := ?_) | refine rt' (hq := ?_)
    exact ⟨rfl, (hT5.o.trans ho).trans (hs.only0 rfl)⟩
end Go.Proofs.YtdkmhjiojealoaaGreatDoorX

namespace Go.Proofs.YtdkmhjiojealoaaGreatDoorX
open Go Go.RowKit Go.ChangeShapes Go.WideShapes Go.ChangeAt
set_option maxRecDepth 100000 in
theorem settleShifts_lifted (os : Os) (started : os.Started) (H : Type) (enc : TypeId × Value → H) :
    ReturnsInHanded {} Tryz.checked os 3 .any (fun w args => (YtdkmhjiojealoaaGreatDoor.Rows.settleShiftsSpec.pre enc Tryz.prog Tryz.f3 [] false w args ∧ laidMetH Tryz.prog [("math/bits.deBruijn32tab", YtdkmhjiojealoaaGreatDoor.Rows.laid_math_bits_deBruijn32tab), ("math/bits.deBruijn64tab", YtdkmhjiojealoaaGreatDoor.Rows.laid_math_bits_deBruijn64tab), ("internal/strconv.uint64pow10", YtdkmhjiojealoaaGreatDoor.Rows.laid_internal_strconv_uint64pow10)] w) ∧ sizedMet enc Tryz.prog Tryz.f3 (OpenSpec.ofChange YtdkmhjiojealoaaGreatDoor.Rows.settleShiftsSpec) false w args) (YtdkmhjiojealoaaGreatDoor.Rows.settleShiftsSpec.post enc Tryz.prog Tryz.f3 false true false false) := by
  refine returnsInHanded_of_change_and (C := Tryz.checked) (X := fun w _ => laidMetH Tryz.prog [("math/bits.deBruijn32tab", YtdkmhjiojealoaaGreatDoor.Rows.laid_math_bits_deBruijn32tab), ("math/bits.deBruijn64tab", YtdkmhjiojealoaaGreatDoor.Rows.laid_math_bits_deBruijn64tab), ("internal/strconv.uint64pow10", YtdkmhjiojealoaaGreatDoor.Rows.laid_internal_strconv_uint64pow10)] w) (fun _ _ _ hh h => h.of_heap hh) own started (by kernel_rfl) Tryz.func3
    (ChangeSpec.witness_shaped (enc := enc) (C := Tryz.checked) (os := os) (X := fun w _ => laidMetH Tryz.prog [("math/bits.deBruijn32tab", YtdkmhjiojealoaaGreatDoor.Rows.laid_math_bits_deBruijn32tab), ("math/bits.deBruijn64tab", YtdkmhjiojealoaaGreatDoor.Rows.laid_math_bits_deBruijn64tab), ("internal/strconv.uint64pow10", YtdkmhjiojealoaaGreatDoor.Rows.laid_internal_strconv_uint64pow10)] w) false (World.doorLaid Tryz.prog 24 os) #[.int .u64 0, .int .u64 0, .slice none 0 0] 8 rfl (World.shaped_of_RefB (by kernel_rfl) (by kernel_rfl)) (by kernel_rfl) (by kernel_rfl) (by kernel_rfl) (door_met os _)) ?_
  intro W base args ds gs before hval0 hW hcnd hsz0 hL _
  have hP := pows_of hL
  have hval : ∀ (j : Nat) t v, Tryz.f3.params[j]? = some t → args[j]? = some v → Value.okWide Tryz.prog W .any base t v := hval0
  have hW' := hW
  obtain ⟨p, q, hA0, hV, rfl, hfz, hnd⟩ := hW
  have hA : DataW.TrodAll enc Tryz.prog W 0 (fun _ => true) true Tryz.f3.params.toList args.toList ds p := hA0
  rw [Tryz.params3] at hA hval
  obtain ⟨v0, vs0, d0, ds0, p0, q0, hargs, rfl, rfl, h0, r0⟩ := trodAll_cons hA
  obtain ⟨v1, vs1, d1, ds1, p1, q1, rfl, rfl, rfl, h1, r1⟩ := trodAll_cons r0
  obtain ⟨v2, vs2, d2, ds2, p2, q2, rfl, rfl, rfl, h2, r2⟩ := trodAll_cons r1
  obtain ⟨rfl, rfl, rfl⟩ := trodAll_nil r2
  obtain rfl : args = #[v0, v1, v2] := by cases args; simp_all
  obtain ⟨rfl, rfl⟩ := trodVars_none hV
  have lt0 : ∀ x ∈ p0, x.block < W.heap.size := by obtain ⟨m, hm⟩ := h0; exact DataW.trod_lt m _ _ _ hm
  have k0 := h0
  obtain ⟨x0, rfl, _, _, w0⟩ := open_int (t := 22) (k := .u64) (by kernel_rfl) (hval 0 _ v0 rfl rfl) k0
  have b0 : (0 : Int) ≤ x0 ∧ x0 < 18446744073709551616 := by
    have h := int_of w0
    have e1 : IntKind.u64.min = 0 := rfl
    have e2 : IntKind.u64.max = 18446744073709551615 := rfl
    omega
  have lt1 : ∀ x ∈ p1, x.block < W.heap.size := by obtain ⟨m, hm⟩ := h1; exact DataW.trod_lt m _ _ _ hm
  have k1 := h1
  obtain ⟨x1, rfl, _, _, w1⟩ := open_int (t := 22) (k := .u64) (by kernel_rfl) (hval 1 _ v1 rfl rfl) k1
  have b1 : (0 : Int) ≤ x1 ∧ x1 < 18446744073709551616 := by
    have h := int_of w1
    have e1 : IntKind.u64.min = 0 := rfl
    have e2 : IntKind.u64.max = 18446744073709551615 := rfl
    omega
  have lt2 : ∀ x ∈ p2, x.block < W.heap.size := by obtain ⟨m, hm⟩ := h2; exact DataW.trod_lt m _ _ _ hm
  have k2 := h2
  obtain ⟨x2, hw2, hx2⟩ := open_acts16 (hval 2 _ v2 rfl rfl) k2
  clear hA0 hval0 hsz0
  refine (ret_calls (by kernel_rfl) (settleShifts_ret x0 x1 x2 v2 b0 b1 hx2 W hw2 hP)).mono fun e W' ⟨v, he, hv, ho⟩ => ?_
  subst he hv
  have bel := ho.below
  exact ⟨_, rfl, _, _, _, [], _, [], hW', trodAll_mk1 (shut_bool (by kernel_rfl) _), (trodAll_cons_mk (Below.trod laidOut (by kernel_rfl) (of_decide_eq_true (by kernel_rfl)) h0 bel lt0) (trodAll_cons_mk (Below.trod laidOut (by kernel_rfl) (of_decide_eq_true (by kernel_rfl)) h1 bel lt1) (trodAll_cons_mk (Below.trod laidOut (by kernel_rfl) (of_decide_eq_true (by kernel_rfl)) h2 bel lt2) trodAll_mk0))), rfl, bel.frame _, fun h => by cases h⟩
end Go.Proofs.YtdkmhjiojealoaaGreatDoorX
namespace Go.Proofs.YtdkmhjiojealoaaGreatDoor
open Go Go.RowKit Go.ChangeShapes Go.WideShapes Go.ChangeAt
theorem settleShifts_nm : Tryz.prog.funcNamed "turnstone/turnstonelaw17.SettleShifts" = some 3 := by kernel_rfl
theorem settleShifts_ip : (Rows.settleShiftsRow.inPlace == Tryz.prog.inPlace 3) = true := by kernel_rfl
theorem settleShifts_un : (Rows.settleShiftsRow.unfollowed == Tryz.prog.unfollowed 3) = true := by kernel_rfl
theorem settleShifts_rc : (Rows.settleShiftsRow.recurses == Tryz.prog.recurses 3) = true := by kernel_rfl
theorem settleShifts_nd : (Rows.settleShiftsRow.named == Tryz.prog.varsNamed 3) = true := by kernel_rfl
theorem settleShifts_holds : Rows.SettleShiftsSaid :=
  OpenClaim.holds_of_wide 3 Tryz.f3 rfl rfl rfl rfl rfl rfl rfl ⟨rfl, rfl, rfl, rfl, rfl⟩ rfl rfl rfl rfl rfl settleShifts_nm Tryz.func3
    (by unfold joinedFacts; exact (and_mk (and_mk (and_mk (and_mk (and_mk (and_mk (and_mk (and_mk (and_mk (and_mk (and_mk (and_mk (and_mk (and_mk (and_mk (and_mk (and_mk (and_mk (and_mk (and_mk (and_mk (and_mk (and_mk (and_mk (and_mk (and_mk (and_mk (and_mk (and_mk (and_mk (and_mk (by kernel_rfl) pf_laid) pf_maps) (by kernel_rfl)) (by kernel_rfl)) (by kernel_rfl)) (by kernel_rfl)) (by kernel_rfl)) (by kernel_rfl)) settleShifts_ip) settleShifts_un) settleShifts_rc) settleShifts_nd) (by kernel_rfl)) (by kernel_rfl)) (by kernel_rfl)) (by kernel_rfl)) (by kernel_rfl)) (by kernel_rfl)) (by kernel_rfl)) (by kernel_rfl)) (by kernel_rfl)) pf_keys) (by kernel_rfl)) pf_heard) pf_enter) pf_lift) pf_make) (by kernel_rfl)) (by kernel_rfl)) (by kernel_rfl)) (by kernel_rfl)))
    (of_decide_eq_true (by kernel_rfl)) (by unfold Func.isWrapper; first | (rw [if_pos (by decide +kernel)]; kernel_rfl) | (rw [if_neg (by decide +kernel)]; exact ⟨rfl, rfl⟩))
    (fun os started H enc _ => YtdkmhjiojealoaaGreatDoorX.settleShifts_lifted os started H enc)
theorem settleShifts_w : Rows.settleShiftsRow.wfByText (OpenSpec.ofChange Rows.settleShiftsSpec) = true := by kernel_rfl
theorem settleShifts_mn : Tryz.prog.mainIs = some (Rows.settleShiftsCard.stood.harness.1, Rows.settleShiftsCard.stood.harness.2.toList) := by kernel_rfl
theorem settleShifts_lk : Rows.settleShiftsCard.stood.looks = Tryz.prog.looks [] := by kernel_rfl
theorem settleShifts_gs : false = Rows.settleShiftsRow.goesBy Tryz.prog := by kernel_rfl
theorem settleShifts_card : Rows.SettleShiftsCardSaid :=
  Claim7.holds_tied_plain_at .later [] [.data, .data, .data] true Rows.settleShiftsCard.stood.harness Rows.settleShiftsCard.stood.looks
    settleShifts_holds (fun _ h => by cases h) settleShifts_w (fun _ h => by cases h) settleShifts_row_tie rfl ⟨rfl, rfl⟩ settleShifts_mn rfl
    (fun f fn hf hfn => by
      obtain rfl : f = 3 := Option.some.inj (settleShifts_nm.symm.trans hf) |>.symm
      obtain rfl : fn = Tryz.f3 := (Option.some.inj (Tryz.func3.symm.trans hfn)).symm
      exact ⟨settleShifts_lk, fun j t ht => by
        rw [Tryz.params3] at ht
        have hm : t ∈ [22, 22, 23] := by simpa using Array.mem_of_getElem? ht
        have hall : ([22, 22, 23].all fun u => !Tryz.prog.wantsStandIn u) = true := by kernel_rfl
        exact (show Tryz.prog.wantsStandIn t = false by simpa using List.all_eq_true.1 hall t hm)⟩)
    settleShifts_gs
end Go.Proofs.YtdkmhjiojealoaaGreatDoor
