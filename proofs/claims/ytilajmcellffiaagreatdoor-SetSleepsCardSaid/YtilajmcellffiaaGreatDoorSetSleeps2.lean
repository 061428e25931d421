/- Proved: law16.SetSleeps returns true for every clock, every slice of acts and every slice of bytes, and its arguments read as before; no conditions -/
import Derived.Test.YtilajmcellffiaaGreatDoorSetSleeps1
import Derived.Test.YtilajmcellffiaaGreatDoorRows
import Derived.JoinedOf
import Derived.Test.YtilajmcellffiaaGreatDoorTie
import Derived.Lib.LaidTab
import Derived.Stop.LaidErr
import Derived.MakeChecks
import Derived.LaidMore
import Derived.LaidLaws
import Derived.Test.YtilajmcellffiaaGreatDoorCards
import Derived.SevenTiedAt
set_option linter.unusedVariables false
set_option linter.unusedSimpArgs false
set_option maxRecDepth 100000
namespace Go.Proofs.YtilajmcellffiaaGreatDoorX
open Go Go.RowKit
attribute [local irreducible] XS XC XA thenE blockE retE loopE loopS cutB cutN doneE SE
theorem eqIt_self (p : It) : (cellEq (.int .u64 p.p.t) (.int .u64 p.p.t) && (cellEq (.int .u32 p.p.r) (.int .u32 p.p.r) && (cellEq (.int .u32 p.p.w) (.int .u32 p.p.w) && (cellEq (.int .i64 p.id) (.int .i64 p.id) && (cellEq (.int .u64 p.d.t) (.int .u64 p.d.t) && (cellEq (.int .u32 p.d.r) (.int .u32 p.d.r) && cellEq (.int .u32 p.d.w) (.int .u32 p.d.w))))))) = true := by
  show ((p.p.t == p.p.t) && ((p.p.r == p.p.r) && ((p.p.w == p.p.w) && ((p.id == p.id) && ((p.d.t == p.d.t) && ((p.d.r == p.d.r) && (p.d.w == p.d.w))))))) = true
  simp
theorem eqW_self (x : Int) : (cellEq (.int .i64 (x / 18446744073709551616)) (.int .i64 (x / 18446744073709551616)) && cellEq (.int .u64 (x % 18446744073709551616)) (.int .u64 (x % 18446744073709551616))) = true := by
  show ((x / 18446744073709551616 == x / 18446744073709551616) && (x % 18446744073709551616 == x % 18446744073709551616)) = true
  simp
set_option maxHeartbeats 16000000 in
theorem setSleeps_ret (c : Int) (xs : List Ac16) (ws : List Int) (sl wl : Value) (hc0 : U64 c) (hx : ∀ a ∈ xs, a.In) (hw : ∀ a ∈ ws, 0 ≤ a ∧ a < 256) (w0 : World) (hL : LsX w0 11 sl (xs.map Ac16.cells)) (hW : LsX w0 1 wl (ws.map u8R)) (ht : Pows w0) : Ret Tryz.prog 5 #[.int .u64 c, sl, wl] w0 fun v w' => v = .bool true ∧ Only [] w0 w' := by
  obtain ⟨ad, cap, rfl, hD⟩ := hL
  obtain ⟨ad2, cap2, rfl, hD2⟩ := hW
  rw [List.length_map, List.length_map]
  have hs := St.nil w0
  refine ret_of_xc Tryz.func5 (by kernel_rfl) rfl Tryz.ntmps5 rfl rfl rfl ?_
  repeat' (first|refine vs (k:=?_)|refine qRg ?_|refine Nx.h ?_|fail)
  (with_reducible apply xs_call); exact rfl; exact rfl; exact awake16_ret _ (tab_only ht (hs.only0 rfl))
  rintro v w' ⟨rfl, ho⟩; replace hs := hs.call0 ho
  refine vs (k := ?_)
  repeat' (first|refine Nx.h ?_|refine qCf ?_|fail)
  refine xc_region ?_ ?_; exact rfl
  iterate 3 refine vs (k := ?_)
  by_cases hm : ((xs.length : Nat) : Int) > 40
  · rw [decide_eq_true hm]
    repeat' (first|refine vs (k:=?_)|refine ps (k:=?_)|refine qRg ?_|refine Nx.h ?_|refine qCt ?_|fail)
    first | refine rt (hq := ?_) | refine rt' (hq := ?_)
    exact ⟨rfl, hs.only0 rfl⟩
  rw [decide_eq_false hm]
  iterate 4 refine vs (k := ?_)
  by_cases hm2 : ((ws.length : Nat) : Int) > 40
  · rw [decide_eq_true hm2]
    repeat' (first|refine vs (k:=?_)|refine qRg ?_|refine Nx.h ?_|refine qCt ?_|fail)
    first | refine rt (hq := ?_) | refine rt' (hq := ?_)
    exact ⟨rfl, hs.only0 rfl⟩
  rw [decide_eq_false hm2]
  repeat' (first|refine vs (k:=?_)|refine qRg ?_|refine Nx.h ?_|refine qCf ?_|fail)
  (with_reducible apply xs_call); exact rfl; exact rfl; exact anew_ret c hc0 _
  rintro v w1 ⟨⟨sb, F1, rfl, hS1, hF1⟩, ho1⟩
  have hoA := (hs.only0 rfl).trans ho1
  have hz := (hs.only0 rfl).size
  clear hs
  have hs := St.nil w1
  repeat' (first|refine vs (k:=?_)|refine qRg ?_|refine Nx.h ?_|fail)
  refine xc_cutB (fun (_ : List Nat) => [(2, .slice ad2 ws.length cap2), (7, .pointer (some ⟨sb, 0, none⟩))]) (fun F w => SetAt w sb (acts16 ⟨[], c⟩ xs) F ∧ (∀ k ∈ F, w0.heap.size ≤ k) ∧ Only [] w0 w) ?_ ?_
  · refine xc_loopS (fun (x : Nat × List Nat) => [(2, .slice ad2 ws.length cap2), (7, .pointer (some ⟨sb, 0, none⟩)), (40, .slice ad xs.length cap), (41, .int .i64 (xs.length : Nat)), (42, .int .i64 (x.1 : Nat))])
      (fun x w => x.1 ≤ xs.length ∧ SetAt w sb (acts16 ⟨[], c⟩ (xs.take x.1)) x.2 ∧ (∀ k ∈ x.2, w0.heap.size ≤ k) ∧ Only [] w0 w) (fun x => xs.length - x.1) (0, F1) (by (repeat (first | exact agree_nil | (apply agree_cons; exact rfl)))) ⟨Nat.zero_le _, hS1.only (hs.only0 rfl), fun k hk => by have := hF1 k hk; omega, hoA.trans (hs.only0 rfl)⟩ fun x env wl ⟨hi, hS, hF, ho0⟩ => ?_
    obtain ⟨i, F⟩ := x
    simp only at hi hS hF
    clear hs
    have hs := St.nil wl
    repeat' (first|refine vs (k:=?_)|refine qRg ?_|refine Nx.h ?_|(refine xc_if rfl (fun hc=>?_) (fun hc=>?_))|fail)
    · have hlt : i < xs.length := by omega
      obtain ⟨b, off, cs, E, fz, rfl, hb, hcs⟩ := hD (fun h => by have := congrArg List.length h; rw [List.length_map, List.length_nil] at this; omega)
      have hpk := hcs i (Ac16.cells xs[i]) (by rw [List.getElem?_map, List.getElem?_eq_getElem hlt]; rfl)
      have ei := nx64 (m := xs.length) hlt (by omega)
      obtain ⟨d0, d1⟩ := hx xs[i] (List.getElem_mem hlt)
      have eA : acts16 ⟨[], c⟩ (xs.take (i + 1)) = act16 (acts16 ⟨[], c⟩ (xs.take i)) xs[i] := by rw [take_next hlt, acts16_snoc]
      generalize xs[i] = q at *
      generalize acts16 ⟨[], c⟩ (xs.take i) = A at *
      refine ix (h0 := (by omega)) (h1 := (by omega)) (k := ?_)
      refine lhK (vs := q.cells) (ho0.block hb (by simp)) hpk (k := ?_)
      refine al hs (k := ?_); intro b9 w6 hz6 hs
      refine stA hs (k := ?_); intro w7 hs
      repeat' (first|refine vs (k:=?_)|refine qRg ?_|refine Nx.h ?_|fail)
      refine rem8 (b := 6) d0 (by decide) (k := ?_)
      repeat' (first|refine vs (k:=?_)|refine qRg ?_|refine Nx.h ?_|(refine xc_if rfl (fun hc=>?_) (fun hc=>?_))|fail)
      · have hd : q.d % 6 = 2 := by simpa using hc
        rw [act16, if_pos hd] at eA
        have ho3 := hs.only0 rfl
        (with_reducible apply xs_call); exact rfl; exact rfl; exact aexit_ret sb A F (idR q.r) _ (hS.only ho3) q.r.2.1.2.1
        rintro v w3 ⟨rfl, hLf⟩
        obtain ⟨F', hS', hF', hoB⟩ := left_only hLf (ho0.trans ho3) hF
        clear hs
        have hs := St.nil w3
        repeat' (first|refine vs (k:=?_)|refine qRg ?_|refine Nx.h ?_|fail)
        exact loopS_next (i + 1, F') (by show xs.length - (i + 1) < xs.length - i; omega) (by (repeat (first | exact agree_nil | (apply agree_cons; first | exact rfl | exact congrArg (Value.int .i64) ei)))) ⟨by show i + 1 ≤ _; omega, by rw [← eA] at hS'; exact hS'.only (hs.only0 rfl), hF', hoB.trans (hs.only0 rfl)⟩
      · have hd : ¬ q.d % 6 = 2 := fun e => by rw [e] at hc; exact absurd hc (by decide)
        rw [act16, if_neg hd] at eA
        have ho3 := hs.only0 rfl
        (with_reducible apply xs_call); exact rfl; exact rfl; exact aenter_ret sb A F q.r _ (hS.only ho3)
        rintro v w3 ⟨rfl, hLf⟩
        obtain ⟨F', hS', hF', hoB⟩ := left_only hLf (ho0.trans ho3) hF
        clear hs
        have hs := St.nil w3
        repeat' (first|refine vs (k:=?_)|refine qRg ?_|refine Nx.h ?_|fail)
        exact loopS_next (i + 1, F') (by show xs.length - (i + 1) < xs.length - i; omega) (by (repeat (first | exact agree_nil | (apply agree_cons; first | exact rfl | exact congrArg (Value.int .i64) ei)))) ⟨by show i + 1 ≤ _; omega, by rw [← eA] at hS'; exact hS'.only (hs.only0 rfl), hF', hoB.trans (hs.only0 rfl)⟩
    · have e : i = xs.length := by omega
      subst e
      rw [List.take_length] at hS
      exact cutB_exit F (by (repeat (first | exact agree_nil | (apply agree_cons; exact rfl)))) ⟨hS, hF, ho0⟩
  clear hs hS1
  rintro F env w2 ⟨hS, hF, ho0⟩
  generalize acts16 ⟨[], c⟩ xs = A at *
  have hs := St.nil w2
  repeat' (first|refine vs (k:=?_)|refine qRg ?_|refine Nx.h ?_|fail)
  have hoB := hs.only0 rfl
  have hltF := (hS.only hoB).lt
  (with_reducible apply xs_call); exact rfl; exact rfl; exact aclone_ret sb A F _ (hS.only hoB)
  rintro v w3 ⟨⟨sc, Fc, rfl, hC, hFc⟩, ho3⟩
  have hoC := hoB.trans ho3
  have hS3 := hS.only hoC
  have hoD := ho0.trans hoC
  have hltc := hC.lt
  have hdis : ∀ k ∈ Fc, k ∉ F := fun k hk hm => by have := hFc k hk; have := hltF k hm; omega
  have hO : OrdR A.l := by obtain ⟨s, h⟩ := hS.rep; exact h.o
  have hlA : A.l.length ≤ 32 := by obtain ⟨s, h⟩ := hS.rep; exact h.le
  clear hs
  have hs := St.nil w3
  repeat' (first|refine vs (k:=?_)|refine qRg ?_|refine Nx.h ?_|fail)
  refine xc_cutB (fun (_ : List Nat × As) => [(7, .pointer (some ⟨sb, 0, none⟩)), (10, .pointer (some ⟨sc, 0, none⟩))]) (fun x w => SetAt w sb x.2 x.1 ∧ AlikeA A x.2 ∧ SetAt w sc A Fc ∧ (∀ k ∈ Fc, k ∉ x.1) ∧ Only [] w0 w) ?_ ?_
  · refine xc_loopS (fun (x : Nat × List Nat × As) => [(7, .pointer (some ⟨sb, 0, none⟩)), (10, .pointer (some ⟨sc, 0, none⟩)), (63, .slice ad2 ws.length cap2), (64, .int .i64 (ws.length : Nat)), (65, .int .i64 (x.1 : Nat))])
      (fun x w => x.1 ≤ ws.length ∧ SetAt w sb x.2.2 x.2.1 ∧ AlikeA A x.2.2 ∧ SetAt w sc A Fc ∧ (∀ k ∈ Fc, k ∉ x.2.1) ∧ (∀ k ∈ x.2.1, w0.heap.size ≤ k) ∧ w3.heap.size ≤ w.heap.size ∧ Only [] w0 w) (fun x => ws.length - x.1) (0, F, A) (by (repeat (first | exact agree_nil | (apply agree_cons; exact rfl)))) ⟨Nat.zero_le _, hS3.only (hs.only0 rfl), AlikeA.refl A, hC.only (hs.only0 rfl), hdis, hF, (hs.only0 rfl).size, hoD.trans (hs.only0 rfl)⟩ fun x env wl ⟨hi, hS, hAB, hC, hdis, hF, hz3, ho0⟩ => ?_
    obtain ⟨i, F, B⟩ := x
    simp only at hi hS hAB hdis hF
    clear hs
    have hs := St.nil wl
    repeat' (first|refine vs (k:=?_)|refine qRg ?_|refine Nx.h ?_|(refine xc_if rfl (fun hc=>?_) (fun hc=>?_))|fail)
    · have hlt : i < ws.length := by omega
      obtain ⟨b, off, cs, E, fz, rfl, hb, hcs⟩ := hD2 (fun h => by have := congrArg List.length h; rw [List.length_map, List.length_nil] at this; omega)
      have hpk := hcs i (u8R ws[i]) (by rw [List.getElem?_map, List.getElem?_eq_getElem hlt]; rfl)
      have ei := nx64 (m := ws.length) hlt (by omega)
      obtain ⟨d0, d1⟩ := hw ws[i] (List.getElem_mem hlt)
      have hOB : OrdR B.l := by obtain ⟨s, h⟩ := hS.rep; exact h.o
      generalize ws[i] = q at *
      have eq0 : IntKind.i64.wrap (q % 40) = q % 40 := by rw [wrap_i64]; omega
      have hq : In64 (q % 40) := by unfold In64; omega
      refine ix (h0 := (by omega)) (h1 := (by omega)) (k := ?_)
      refine lh (ho0.block hb (by simp)) (by cases hpk; assumption) (k := ?_)
      repeat' (first|refine vs (k:=?_)|refine qRg ?_|refine Nx.h ?_|fail)
      refine rem8 (b := 40) d0 (by decide) (k := ?_)
      refine vs (k := ?_)
      rw [eq0]
      (with_reducible apply xs_call); exact rfl; exact rfl; exact areq_ret sb B F (q % 40) _ (hS.only (hs.only0 rfl)) hq
      rintro v w5 ⟨rfl, ho5⟩; replace hs := hs.call0 ho5
      repeat' (first|refine vs (k:=?_)|(refine stA hs (k:=?_);intro w hs)|(refine al hs (k:=?_);intro b w hz hs)|refine qRg ?_|refine Nx.h ?_|fail)
      refine rem8 (b := 40) d0 (by decide) (k := ?_)
      refine vs (k := ?_)
      rw [eq0]
      repeat' (first|refine vs (k:=?_)|fail)
      have ho6 := hs.only0 rfl
      have hz6 := ho6.size
      have hz06 := ho0.size
      (with_reducible apply xs_call); exact rfl; exact rfl; exact arouse_ret sb B F (q % 40) (decide (q ≥ 40)) _ (hS.only ho6) hq
      rintro v w6 ⟨rfl, F', hS', hF', ho7⟩
      have hoX := (ho0.trans ho6).step ho7 (fun k hk => .inr (hF k hk))
      have hC7 := (hC.only ho6).keepD ho7 hdis
      have hF7 : ∀ k ∈ F', w0.heap.size ≤ k := fun k hk => by rcases hF' k hk with h | h; exact hF k h; omega
      have hd7 : ∀ k ∈ Fc, k ∉ F' := fun k hk hm => by
        rcases hF' k hm with h | h
        · exact hdis k hk h
        · have := hltc k hk; omega
      have hz7 := ho7.size
      have hAB7 := hAB.rouse hOB (q % 40) (decide (q ≥ 40))
      generalize rouA B (q % 40) (decide (q ≥ 40)) = B2 at *
      clear hs
      have hs := St.nil w6
      cases hsm : (findR B.l (q % 40)).isSome
      · repeat' (first|refine vs (k:=?_)|refine qRg ?_|refine Nx.h ?_|refine qCf ?_|fail)
        have hoE := hs.only0 rfl
        exact loopS_next (i + 1, F', B2) (by show ws.length - (i + 1) < ws.length - i; omega) (by (repeat (first | exact agree_nil | (apply agree_cons; first | exact rfl | exact congrArg (Value.int .i64) ei)))) ⟨by show i + 1 ≤ _; omega, hS'.only hoE, hAB7, hC7.only hoE, hd7, hF7, by have := hoE.size; omega, hoX.trans hoE⟩
      · repeat' (first|refine vs (k:=?_)|refine ps (k:=?_)|refine qRg ?_|refine Nx.h ?_|refine qCf ?_|fail)
        have hoE := hs.only0 rfl
        exact loopS_next (i + 1, F', B2) (by show ws.length - (i + 1) < ws.length - i; omega) (by (repeat (first | exact agree_nil | (apply agree_cons; first | exact rfl | exact congrArg (Value.int .i64) ei)))) ⟨by show i + 1 ≤ _; omega, hS'.only hoE, hAB7, hC7.only hoE, hd7, hF7, by have := hoE.size; omega, hoX.trans hoE⟩
    · exact cutB_exit (F, B) (by (repeat (first | exact agree_nil | (apply agree_cons; exact rfl)))) ⟨hS, hAB, hC, hdis, ho0⟩
  clear hs hS3 hC
  rintro ⟨F2, B⟩ env w4 ⟨hS, hAB, hC, hdis, ho0⟩
  simp only at hS hAB hdis
  obtain ⟨qb, mb, p1, hQ1⟩ := hS.opn
  obtain ⟨qc, mc, p2, hQ2⟩ := hC.opn
  have nsc : sc ≠ sb := fun e => hdis sc hC.mem (e ▸ hS.mem)
  have hs := ((St.nil w4).track p1 (by simp)).track p2 (by simpa using nsc)
  repeat' (first|refine Nx.h ?_|fail)
  refine dr [] hs (k := ?_); intro hX w hs
  refine tk 0 hX (k := ?_)
  refine tk 1 hX (k := ?_)
  refine tk 2 hX (k := ?_)
  refine tk 3 hX (k := ?_)
  refine tk 5 hX (k := ?_)
  refine tk 6 hX (k := ?_)
  refine tk 7 hX (k := ?_)
  refine tk 8 hX (k := ?_)
  refine dt 4 hX (k := ?_)
  have hoa := hs.onlyF [] (by simp [p1, p2]) (by simp [D0])
  (with_reducible apply xs_call); exact rfl; exact rfl; exact anow_ret qb B _ (hQ1.only hoa)
  rw [← hAB.now]
  rintro v w5 ⟨rfl, hob⟩; replace hs := hs.call0 hob
  refine XS.nil ?_
  refine dn (k := ?_)
  refine dt 9 hX (k := ?_)
  have hoc := hs.onlyF [] (by simp [p1, p2]) (by simp [D0])
  (with_reducible apply xs_call); exact rfl; exact rfl; exact anow_ret qc A _ (hQ2.only hoc)
  rintro v w6 ⟨rfl, hod⟩; replace hs := hs.call0 hod
  refine XS.nil ?_
  refine dn (k := ?_)
  refine tk 10 hX (k := ?_)
  refine xa_set 107 (v := .bool false) (congrArg Value.bool (show (nowA A != nowA A) = false by simp)) ?_
  refine tk 11 hX (k := ?_)
  refine tk 12 hX (k := ?_)
  refine tk 13 hX (k := ?_)
  refine tk 14 hX (k := ?_)
  refine tk 15 hX (k := ?_)
  refine tk 17 hX (k := ?_)
  refine tk 18 hX (k := ?_)
  refine tk 19 hX (k := ?_)
  refine tk 20 hX (k := ?_)
  refine dt 16 hX (k := ?_)
  have hoe := hs.onlyF [] (by simp [p1, p2]) (by simp [D0])
  (with_reducible apply xs_call); exact rfl; exact rfl; exact alen_ret qb B _ (hQ1.only hoe)
  rw [← hAB.len]
  rintro v w7 ⟨rfl, hof⟩; replace hs := hs.call0 hof
  refine XS.nil ?_
  refine dn (k := ?_)
  refine dt 21 hX (k := ?_)
  have hog := hs.onlyF [] (by simp [p1, p2]) (by simp [D0])
  (with_reducible apply xs_call); exact rfl; exact rfl; exact alen_ret qc A _ (hQ2.only hog)
  rintro v w8 ⟨rfl, hoh⟩; replace hs := hs.call0 hoh
  refine XS.nil ?_
  refine dn (k := ?_)
  refine tk 22 hX (k := ?_)
  refine xa_set 119 (v := .bool false) (congrArg Value.bool (show (((A.l.length : Nat) : Int) != ((A.l.length : Nat) : Int)) = false by simp)) ?_
  refine tk 23 hX (k := ?_)
  refine en (k := ?_)
  repeat' (first|refine vs (k:=?_)|refine qRg ?_|refine Nx.h ?_|refine qCf ?_|fail)
  have hoi := hs.onlyF [] (by simp [p1, p2]) (by simp [D0])
  (with_reducible apply xs_call); exact rfl; exact rfl; exact areqs_ret sc A Fc _ (hC.only hoi)
  rintro v w9 ⟨⟨G, hG, _⟩, hoj⟩
  have hok := hoi.trans hoj
  have j1 := hok.block p1 (by simp)
  have j2 := hok.block p2 (by simp)
  have hS9 := hS.only hok
  have hQ19 := hQ1.only hok
  have hQ29 := hQ2.only hok
  have ho9 := ho0.trans hok
  obtain ⟨ad3, cap3, rfl, hD3⟩ := rs_of hG
  rw [List.length_map] at *
  clear hs
  have hs := ((St.nil w9).track j1 (by simp)).track j2 (by simpa using nsc)
  repeat' (first|refine vs (k:=?_)|refine Nx.h ?_|fail)
  refine xc_cutB (fun (_ : Unit) => [(7, .pointer (some ⟨sb, 0, none⟩)), (10, .pointer (some ⟨sc, 0, none⟩))]) (fun _ w => Only [] w9 w) ?_ ?_
  · refine xc_loopS (fun (i : Nat) => [(7, .pointer (some ⟨sb, 0, none⟩)), (10, .pointer (some ⟨sc, 0, none⟩)), (122, .slice ad3 A.l.length cap3), (123, .int .i64 (A.l.length : Nat)), (124, .int .i64 (i : Nat))])
      (fun i w => i ≤ A.l.length ∧ Only [] w9 w) (fun i => A.l.length - i) 0 (by (repeat (first | exact agree_nil | (apply agree_cons; exact rfl)))) ⟨Nat.zero_le _, hs.onlyF [] (by simp [j1, j2]) (by simp [D0])⟩ fun i env wl ⟨hi, hol⟩ => ?_
    have i1 := hol.block j1 (by simp)
    have i2 := hol.block j2 (by simp)
    clear hs
    have hs := ((St.nil wl).track i1 (by simp)).track i2 (by simpa using nsc)
    repeat' (first|refine vs (k:=?_)|refine qRg ?_|refine Nx.h ?_|(refine xc_if rfl (fun hc=>?_) (fun hc=>?_))|fail)
    · have hlt : i < A.l.length := by omega
      obtain ⟨b, off, cs, fz, hab, _, hb, hcs⟩ := hD3 (fun h => by rw [List.map_eq_nil_iff.1 h] at hlt; cases hlt)
      have hpk := hcs i (Rq.cells A.l[i].1) (by rw [List.getElem?_map, List.getElem?_eq_getElem hlt]; rfl)
      have ei := nx64 (m := A.l.length) hlt (by omega)
      obtain ⟨t1, t2, t3, t4, t5⟩ := hAB.told hO (List.getElem_mem hlt)
      have hlag := hAB.lag (idR A.l[i])
      have hid : In64 (idR A.l[i]) := A.l[i].2.1.2.1
      generalize A.l[i] = a at *
      rw [hab]
      refine ix (h0 := (by omega)) (h1 := (by omega)) (k := ?_)
      refine lhK (vs := a.1.cells) (hol.block hb (by simp)) hpk (k := ?_)
      refine al hs (k := ?_); clear hs; intro b17 w10 hz10 hs
      refine stA hs (k := ?_); clear hs; intro w11 hs
      repeat' (first|refine Nx.h ?_|fail)
      refine dr [] hs (k := ?_); intro hX w hs
      refine tk 0 hX (k := ?_)
      refine tk 1 hX (k := ?_)
      refine tk 2 hX (k := ?_)
      refine tk 3 hX (k := ?_)
      refine tk 4 hX (k := ?_)
      refine tk 5 hX (k := ?_)
      refine tk 6 hX (k := ?_)
      refine pd0 11 18 hs (k := ?_); intro f X w hp; have hs := hp.st
      apply xa_pend 7 11 (f := f) (X := X) hX hp; exact rfl; exact rfl; (first | (apply makes_alloc tabOk; exact rfl) | (apply makes_slice tabOk; exact rfl; exact rfl; exact rfl; exact rfl; exact rfl; (intro X; ((repeat (first | exact Bld.nil | (apply Bld.one; exact rfl; (conv => lhs; whnf); exact rfl; (repeat (first | exact PutL.nil | apply PutL.skip | apply PutL.cons))) | (apply Bld.agg; exact rfl; exact rfl; exact rfl; (repeat (first | exact PutL.nil | apply PutL.skip | apply PutL.cons))))))))); kernel_rfl; kernel_rfl; kernel_rfl; kernel_rfl; (intro X Y; (repeat (first | exact pgg_base | refine pgg_step ?_ (by exact rfl)))); (intro w' hs; ((first | exact se_hold hs.hold | exact se_hold (hold_sim hs.hold rfl) | exact se_hold (hold_sim hs.hold.tail rfl) | exact se_hold (hR hs rfl) | exact se_hold hs.hold.tail | exact se_hold hs.hold.tail.tail | exact se_hold hs.hold.tail.tail.tail | exact se_done rfl))); intro f X w hp; have hs := hp.st
      have ho := hs.onlyF [] (by simp [i1, i2]) (by simp [D0])
      (with_reducible apply xs_call); exact rfl; exact rfl; exact alag_ret qb B (idR a) _ ((hQ19.only hol).only ho) hid
      rw [← hlag, t2]
      rintro v w' ⟨rfl, ho⟩; replace hp := hp.only ho; replace hs := hp.st; repeat' (first|refine Nx.h ?_|fail)
      refine dn (k := ?_)
      refine tk 8 hX (hc := by cases f <;> kernel_rfl) (k := ?_)
      refine tk 9 hX (hc := by cases f <;> kernel_rfl) (k := ?_)
      refine tk 10 hX (hc := by cases f <;> kernel_rfl) (k := ?_)
      apply xa_pendE 11 (f := f) (X := X) hX hp; exact rfl; (first | (apply makes_alloc tabOk; exact rfl) | (apply makes_slice tabOk; exact rfl; exact rfl; exact rfl; exact rfl; exact rfl; (intro X; ((repeat (first | exact Bld.nil | (apply Bld.one; exact rfl; (conv => lhs; whnf); exact rfl; (repeat (first | exact PutL.nil | apply PutL.skip | apply PutL.cons))) | (apply Bld.agg; exact rfl; exact rfl; exact rfl; (repeat (first | exact PutL.nil | apply PutL.skip | apply PutL.cons))))))))); kernel_rfl; kernel_rfl; (intro X Y; (repeat (first | exact pgg_base | refine pgg_step ?_ (by exact rfl)))); (intro w' hs; ((first | exact se_hold hs.hold | exact se_hold (hold_sim hs.hold rfl) | exact se_hold (hold_sim hs.hold.tail rfl) | exact se_hold (hR hs rfl) | exact se_hold hs.hold.tail | exact se_hold hs.hold.tail.tail | exact se_hold hs.hold.tail.tail.tail | exact se_done rfl))); intro b w hI hs
      refine dt 12 hX (k := ?_)
      repeat' (first|(refine stA hs (k:=?_);intro w hs)|refine Nx.h ?_|fail)
      refine dn (k := ?_)
      refine tk 13 hX (k := ?_)
      refine en (k := ?_)
      repeat' (first|refine Nx.h ?_|fail)
      refine dr [] hs (k := ?_); intro hX w hs
      refine tk 0 hX (k := ?_)
      refine tk 1 hX (k := ?_)
      refine tk 2 hX (k := ?_)
      refine tk 3 hX (k := ?_)
      refine tk 4 hX (k := ?_)
      refine tk 5 hX (k := ?_)
      refine tk 6 hX (k := ?_)
      refine pd0 11 20 hs (k := ?_); intro f X w hp; have hs := hp.st
      apply xa_pend 7 11 (f := f) (X := X) hX hp; exact rfl; exact rfl; (first | (apply makes_alloc tabOk; exact rfl) | (apply makes_slice tabOk; exact rfl; exact rfl; exact rfl; exact rfl; exact rfl; (intro X; ((repeat (first | exact Bld.nil | (apply Bld.one; exact rfl; (conv => lhs; whnf); exact rfl; (repeat (first | exact PutL.nil | apply PutL.skip | apply PutL.cons))) | (apply Bld.agg; exact rfl; exact rfl; exact rfl; (repeat (first | exact PutL.nil | apply PutL.skip | apply PutL.cons))))))))); kernel_rfl; kernel_rfl; kernel_rfl; kernel_rfl; (intro X Y; (repeat (first | exact pgg_base | refine pgg_step ?_ (by exact rfl)))); (intro w' hs; ((first | exact se_hold hs.hold | exact se_hold (hold_sim hs.hold rfl) | exact se_hold (hold_sim hs.hold.tail rfl) | exact se_hold (hR hs rfl) | exact se_hold hs.hold.tail | exact se_hold hs.hold.tail.tail | exact se_hold hs.hold.tail.tail.tail | exact se_done rfl))); intro f X w hp; have hs := hp.st
      have ho2 := hs.onlyF [] (by simp [i1, i2]) (by simp [D0])
      (with_reducible apply xs_call); exact rfl; exact rfl; exact alag_ret qc A (idR a) _ ((hQ29.only hol).only ho2) hid
      rw [t1]
      rintro v w' ⟨rfl, ho⟩; replace hp := hp.only ho; replace hs := hp.st; repeat' (first|refine Nx.h ?_|fail)
      refine dn (k := ?_)
      refine tk 8 hX (hc := by cases f <;> kernel_rfl) (k := ?_)
      refine tk 9 hX (hc := by cases f <;> kernel_rfl) (k := ?_)
      refine tk 10 hX (hc := by cases f <;> kernel_rfl) (k := ?_)
      apply xa_pendE 11 (f := f) (X := X) hX hp; exact rfl; (first | (apply makes_alloc tabOk; exact rfl) | (apply makes_slice tabOk; exact rfl; exact rfl; exact rfl; exact rfl; exact rfl; (intro X; ((repeat (first | exact Bld.nil | (apply Bld.one; exact rfl; (conv => lhs; whnf); exact rfl; (repeat (first | exact PutL.nil | apply PutL.skip | apply PutL.cons))) | (apply Bld.agg; exact rfl; exact rfl; exact rfl; (repeat (first | exact PutL.nil | apply PutL.skip | apply PutL.cons))))))))); kernel_rfl; kernel_rfl; (intro X Y; (repeat (first | exact pgg_base | refine pgg_step ?_ (by exact rfl)))); (intro w' hs; ((first | exact se_hold hs.hold | exact se_hold (hold_sim hs.hold rfl) | exact se_hold (hold_sim hs.hold.tail rfl) | exact se_hold (hR hs rfl) | exact se_hold hs.hold.tail | exact se_hold hs.hold.tail.tail | exact se_hold hs.hold.tail.tail.tail | exact se_done rfl))); intro b w hI hs
      refine dt 12 hX (k := ?_)
      repeat' (first|(refine stA hs (k:=?_);intro w hs)|refine Nx.h ?_|fail)
      refine dn (k := ?_)
      refine tk 13 hX (k := ?_)
      refine en (k := ?_)
      repeat' (first|refine vs (k:=?_)|refine qRg ?_|refine Nx.h ?_|fail)
      have ho3 := hs.onlyF [] (by simp [i1, i2]) (by simp [D0])
      (with_reducible apply xs_call); exact rfl; exact rfl; exact areq_ret sb B F2 (idR a) _ ((hS9.only hol).only ho3) hid
      generalize getL B.l (idR a) = y at *
      obtain ⟨yi, yl, ys, ya⟩ := y
      simp only at t3 t4 t5
      subst t3 t4 t5
      rintro v w12 ⟨rfl, ho12⟩; replace hs := hs.call0 ho12
      iterate 3 refine vs (k := ?_)
      refine al hs (k := ?_); clear hs; intro b22 w13 hz13 hs
      refine stA hs (k := ?_); clear hs; intro w14 hs
      refine vs (k := ?_)
      repeat' (first|refine Nx.h ?_|fail)
      refine xc_region ?_ ?_; exact rfl
      iterate 3 refine vs (k := ?_)
      rw [eqW_self]
      iterate 14 (first|refine vs (k:=?_)|refine ps (k:=?_))
      rw [eqIt_self]
      iterate 7 (first|refine vs (k:=?_)|refine ps (k:=?_))
      rw [show (a.1.left != a.1.left) = false by simp]
      iterate 7 (first|refine vs (k:=?_)|refine ps (k:=?_))
      rw [show (a.1.slice != a.1.slice) = false by simp]
      repeat' (first|refine vs (k:=?_)|refine qRg ?_|refine Nx.h ?_|refine qCf ?_|fail)
      exact loopS_next (i + 1) (by show A.l.length - (i + 1) < A.l.length - i; omega) (by (repeat (first | exact agree_nil | (apply agree_cons; first | exact rfl | exact congrArg (Value.int .i64) ei)))) ⟨by show i + 1 ≤ _; omega, hol.trans (hs.onlyF [] (by simp [i1, i2]) (by simp [D0]))⟩
    · have e : i = A.l.length := by omega
      subst e
      exact cutB_exit () (by (repeat (first | exact agree_nil | (apply agree_cons; exact rfl)))) hol
  · rintro _ env w ho10
    have hS10 := hS9.only ho10
    have i1 := ho10.block j1 (by simp)
    have i2 := ho10.block j2 (by simp)
    obtain ⟨u1, u2⟩ := hAB.soon
    clear hs
    have hs := ((St.nil w).track i1 (by simp)).track i2 (by simpa using nsc)
    repeat' (first|refine vs (k:=?_)|refine qRg ?_|refine Nx.h ?_|fail)
    have hoa := hs.onlyF [] (by simp [i1, i2]) (by simp [D0])
    (with_reducible apply xs_call); exact rfl; exact rfl; exact asoonest_ret qb B _ ((hQ19.only ho10).only hoa)
    rw [← u1, ← u2]
    rintro v w11 ⟨rfl, hob⟩; replace hs := hs.call0 hob
    repeat' (first|refine vs (k:=?_)|(refine stA hs (k:=?_);intro w hs)|(refine al hs (k:=?_);intro b w hz hs)|refine qRg ?_|refine Nx.h ?_|fail)
    have hoc := hs.onlyF [] (by simp [i1, i2]) (by simp [D0])
    (with_reducible apply xs_call); exact rfl; exact rfl; exact asoonest_ret qc A _ ((hQ29.only ho10).only hoc)
    rintro v w12 ⟨rfl, hod⟩; replace hs := hs.call0 hod
    iterate 3 refine vs (k := ?_)
    refine al hs (k := ?_); clear hs; intro b26 w13 hz13 hs
    refine stA hs (k := ?_); clear hs; intro w14 hs
    refine vs (k := ?_)
    repeat' (first|refine Nx.h ?_|fail)
    refine xc_region ?_ ?_; exact rfl
    iterate 3 refine vs (k := ?_)
    rw [eqIt_self]
    iterate 4 (first|refine vs (k:=?_)|refine ps (k:=?_))
    rw [show ((soonA A).isSome == (soonA A).isSome) = true by simp]
    repeat' (first|refine vs (k:=?_)|refine Nx.h ?_|fail)
    first | refine rt (hq := ?_) | refine rt' (hq := ?_)
    exact ⟨rfl, (ho9.trans ho10).trans (hs.onlyF [] (by simp [i1, i2]) (by simp [D0]))⟩
end Go.Proofs.YtilajmcellffiaaGreatDoorX

namespace Go.Proofs.YtilajmcellffiaaGreatDoor
open Go
theorem pf_laid : laidOutB Tryz.prog = true := by kernel_rfl
theorem pf_maps : mapsRowed Tryz.prog = true := by kernel_rfl
theorem pf_keys : (true == Tryz.prog.plainKeys) = true := by kernel_rfl
theorem pf_heard : Tryz.prog.stopsHeard = true := by kernel_rfl
theorem pf_enter : Tryz.prog.mayEnter = true := by kernel_rfl
theorem pf_lift : (false == Tryz.prog.liftsFinal) = true := by kernel_rfl
theorem pf_make : (Tryz.prog.make == some .cut) = true := by kernel_rfl
theorem and_mk {a b : Bool} (h : a = true) (k : b = true) : (a && b) = true := by rw [h, k]; rfl
end Go.Proofs.YtilajmcellffiaaGreatDoor

namespace Go.Proofs.YtilajmcellffiaaGreatDoorX
open Go
theorem door_met (os : Os) (args : Array Value) : laidMetH Tryz.prog [("math/bits.deBruijn32tab", YtilajmcellffiaaGreatDoor.Rows.laid_math_bits_deBruijn32tab), ("math/bits.deBruijn64tab", YtilajmcellffiaaGreatDoor.Rows.laid_math_bits_deBruijn64tab), ("internal/strconv.uint64pow10", YtilajmcellffiaaGreatDoor.Rows.laid_internal_strconv_uint64pow10)] ((World.doorLaid Tryz.prog 24 os).forCall (fun _ _ => 0) ⟨#[], args, []⟩).memory :=
  laidMetH_of_parts3 (fuel := 8) (laidMet_of_run' 8 (by kernel_rfl) (by kernel_rfl)) (by kernel_rfl) (by kernel_rfl)
theorem pows_of {W : World} (h : laidMetH Tryz.prog [("math/bits.deBruijn32tab", YtilajmcellffiaaGreatDoor.Rows.laid_math_bits_deBruijn32tab), ("math/bits.deBruijn64tab", YtilajmcellffiaaGreatDoor.Rows.laid_math_bits_deBruijn64tab), ("internal/strconv.uint64pow10", YtilajmcellffiaaGreatDoor.Rows.laid_internal_strconv_uint64pow10)] W) : Pows W := by
  rw [MakeChecks.laidMetH_plain _ _ _ (by kernel_rfl)] at h
  have h2 := h.tail.tail
  exact Lib.tabIs_of_head (g := (Tryz.prog.globalNamed "internal/strconv.uint64pow10").getD 0) (t := 314) (e := 22) (n := 20) (by kernel_rfl) (by kernel_rfl) (by kernel_rfl) (by kernel_rfl) (by kernel_rfl) (by kernel_rfl) h2
end Go.Proofs.YtilajmcellffiaaGreatDoorX

namespace Go.Proofs.YtilajmcellffiaaGreatDoorX
open Go Go.RowKit Go.ChangeShapes Go.WideShapes Go.ChangeAt
set_option maxRecDepth 100000 in
theorem setSleeps_lifted (os : Os) (started : os.Started) (H : Type) (enc : TypeId × Value → H) :
    ReturnsInHanded {} Tryz.checked os 5 .any (fun w args => (YtilajmcellffiaaGreatDoor.Rows.setSleepsSpec.pre enc Tryz.prog Tryz.f5 [] false w args ∧ laidMetH Tryz.prog [("math/bits.deBruijn32tab", YtilajmcellffiaaGreatDoor.Rows.laid_math_bits_deBruijn32tab), ("math/bits.deBruijn64tab", YtilajmcellffiaaGreatDoor.Rows.laid_math_bits_deBruijn64tab), ("internal/strconv.uint64pow10", YtilajmcellffiaaGreatDoor.Rows.laid_internal_strconv_uint64pow10)] w) ∧ sizedMet enc Tryz.prog Tryz.f5 (OpenSpec.ofChange YtilajmcellffiaaGreatDoor.Rows.setSleepsSpec) false w args) (YtilajmcellffiaaGreatDoor.Rows.setSleepsSpec.post enc Tryz.prog Tryz.f5 false true false false) := by
  refine returnsInHanded_of_change_and (C := Tryz.checked) (X := fun w _ => laidMetH Tryz.prog [("math/bits.deBruijn32tab", YtilajmcellffiaaGreatDoor.Rows.laid_math_bits_deBruijn32tab), ("math/bits.deBruijn64tab", YtilajmcellffiaaGreatDoor.Rows.laid_math_bits_deBruijn64tab), ("internal/strconv.uint64pow10", YtilajmcellffiaaGreatDoor.Rows.laid_internal_strconv_uint64pow10)] w) (fun _ _ _ hh h => h.of_heap hh) own started (by kernel_rfl) Tryz.func5
    (ChangeSpec.witness_shaped (enc := enc) (C := Tryz.checked) (os := os) (X := fun w _ => laidMetH Tryz.prog [("math/bits.deBruijn32tab", YtilajmcellffiaaGreatDoor.Rows.laid_math_bits_deBruijn32tab), ("math/bits.deBruijn64tab", YtilajmcellffiaaGreatDoor.Rows.laid_math_bits_deBruijn64tab), ("internal/strconv.uint64pow10", YtilajmcellffiaaGreatDoor.Rows.laid_internal_strconv_uint64pow10)] w) false (World.doorLaid Tryz.prog 24 os) #[.int .u64 0, .slice none 0 0, .slice none 0 0] 8 rfl (World.shaped_of_RefB (by kernel_rfl) (by kernel_rfl)) (by kernel_rfl) (by kernel_rfl) (by kernel_rfl) (door_met os _)) ?_
  intro W base args ds gs before hval0 hW hcnd hsz0 hL _
  have hP := pows_of hL
  have hval : ∀ (j : Nat) t v, Tryz.f5.params[j]? = some t → args[j]? = some v → Value.okWide Tryz.prog W .any base t v := hval0
  have hW' := hW
  obtain ⟨p, q, hA0, hV, rfl, hfz, hnd⟩ := hW
  have hA : DataW.TrodAll enc Tryz.prog W 0 (fun _ => true) true Tryz.f5.params.toList args.toList ds p := hA0
  rw [Tryz.params5] at hA hval
  obtain ⟨v0, vs0, d0, ds0, p0, q0, hargs, rfl, rfl, h0, r0⟩ := trodAll_cons hA
  obtain ⟨v1, vs1, d1, ds1, p1, q1, rfl, rfl, rfl, h1, r1⟩ := trodAll_cons r0
  obtain ⟨v2, vs2, d2, ds2, p2, q2, rfl, rfl, rfl, h2, r2⟩ := trodAll_cons r1
  obtain ⟨rfl, rfl, rfl⟩ := trodAll_nil r2
  obtain rfl : args = #[v0, v1, v2] := by cases args; simp_all
  obtain ⟨rfl, rfl⟩ := trodVars_none hV
  have lt0 : ∀ x ∈ p0, x.block < W.heap.size := by obtain ⟨m, hm⟩ := h0; exact DataW.trod_lt m _ _ _ hm
  have k0 := h0
  obtain ⟨x0, rfl, _, _, w0⟩ := open_int (t := 22) (k := .u64) (by kernel_rfl) (hval 0 _ v0 rfl rfl) k0
  have b0 : (0 : Int) ≤ x0 ∧ x0 < 18446744073709551616 := by
    have h := int_of w0
    have e1 : IntKind.u64.min = 0 := rfl
    have e2 : IntKind.u64.max = 18446744073709551615 := rfl
    omega
  have lt1 : ∀ x ∈ p1, x.block < W.heap.size := by obtain ⟨m, hm⟩ := h1; exact DataW.trod_lt m _ _ _ hm
  have k1 := h1
  obtain ⟨x1, hw1, hx1⟩ := open_acts16 (hval 1 _ v1 rfl rfl) k1
  have lt2 : ∀ x ∈ p2, x.block < W.heap.size := by obtain ⟨m, hm⟩ := h2; exact DataW.trod_lt m _ _ _ hm
  have k2 := h2
  obtain ⟨x2, hw2, hx2⟩ := open_bytes (hval 2 _ v2 rfl rfl) k2
  clear hA0 hval0 hsz0
  refine (ret_calls (by kernel_rfl) (setSleeps_ret x0 x1 x2 v1 v2 b0 hx1 hx2 W hw1 hw2 hP)).mono fun e W' ⟨v, he, hv, ho⟩ => ?_
  subst he hv
  have bel := ho.below
  exact ⟨_, rfl, _, _, _, [], _, [], hW', trodAll_mk1 (shut_bool (by kernel_rfl) _), (trodAll_cons_mk (Below.trod laidOut (by kernel_rfl) (of_decide_eq_true (by kernel_rfl)) h0 bel lt0) (trodAll_cons_mk (Below.trod laidOut (by kernel_rfl) (of_decide_eq_true (by kernel_rfl)) h1 bel lt1) (trodAll_cons_mk (Below.trod laidOut (by kernel_rfl) (of_decide_eq_true (by kernel_rfl)) h2 bel lt2) trodAll_mk0))), rfl, bel.frame _, fun h => by cases h⟩
end Go.Proofs.YtilajmcellffiaaGreatDoorX
namespace Go.Proofs.YtilajmcellffiaaGreatDoor
open Go Go.RowKit Go.ChangeShapes Go.WideShapes Go.ChangeAt
theorem setSleeps_nm : Tryz.prog.funcNamed "turnstone/turnstonelaw16.SetSleeps" = some 5 := by kernel_rfl
theorem setSleeps_ip : (Rows.setSleepsRow.inPlace == Tryz.prog.inPlace 5) = true := by kernel_rfl
theorem setSleeps_un : (Rows.setSleepsRow.unfollowed == Tryz.prog.unfollowed 5) = true := by kernel_rfl
theorem setSleeps_rc : (Rows.setSleepsRow.recurses == Tryz.prog.recurses 5) = true := by kernel_rfl
theorem setSleeps_nd : (Rows.setSleepsRow.named == Tryz.prog.varsNamed 5) = true := by kernel_rfl
theorem setSleeps_holds : Rows.SetSleepsSaid :=
  OpenClaim.holds_of_wide 5 Tryz.f5 rfl rfl rfl rfl rfl rfl rfl ⟨rfl, rfl, rfl, rfl, rfl⟩ rfl rfl rfl rfl rfl setSleeps_nm Tryz.func5
    (by unfold joinedFacts; exact (and_mk (and_mk (and_mk (and_mk (and_mk (and_mk (and_mk (and_mk (and_mk (and_mk (and_mk (and_mk (and_mk (and_mk (and_mk (and_mk (and_mk (and_mk (and_mk (and_mk (and_mk (and_mk (and_mk (and_mk (and_mk (and_mk (and_mk (and_mk (and_mk (and_mk (and_mk (by kernel_rfl) pf_laid) pf_maps) (by kernel_rfl)) (by kernel_rfl)) (by kernel_rfl)) (by kernel_rfl)) (by kernel_rfl)) (by kernel_rfl)) setSleeps_ip) setSleeps_un) setSleeps_rc) setSleeps_nd) (by kernel_rfl)) (by kernel_rfl)) (by kernel_rfl)) (by kernel_rfl)) (by kernel_rfl)) (by kernel_rfl)) (by kernel_rfl)) (by kernel_rfl)) (by kernel_rfl)) pf_keys) (by kernel_rfl)) pf_heard) pf_enter) pf_lift) pf_make) (by kernel_rfl)) (by kernel_rfl)) (by kernel_rfl)) (by kernel_rfl)))
    (of_decide_eq_true (by kernel_rfl)) (by unfold Func.isWrapper; first | (rw [if_pos (by decide +kernel)]; kernel_rfl) | (rw [if_neg (by decide +kernel)]; exact ⟨rfl, rfl⟩))
    (fun os started H enc _ => YtilajmcellffiaaGreatDoorX.setSleeps_lifted os started H enc)
theorem setSleeps_w : Rows.setSleepsRow.wfByText (OpenSpec.ofChange Rows.setSleepsSpec) = true := by kernel_rfl
theorem setSleeps_mn : Tryz.prog.mainIs = some (Rows.setSleepsCard.stood.harness.1, Rows.setSleepsCard.stood.harness.2.toList) := by kernel_rfl
theorem setSleeps_lk : Rows.setSleepsCard.stood.looks = Tryz.prog.looks [] := by kernel_rfl
theorem setSleeps_gs : false = Rows.setSleepsRow.goesBy Tryz.prog := by kernel_rfl
theorem setSleeps_card : Rows.SetSleepsCardSaid :=
  Claim7.holds_tied_plain_at .later [] [.data, .data, .data] true Rows.setSleepsCard.stood.harness Rows.setSleepsCard.stood.looks
    setSleeps_holds (fun _ h => by cases h) setSleeps_w (fun _ h => by cases h) setSleeps_row_tie rfl ⟨rfl, rfl⟩ setSleeps_mn rfl
    (fun f fn hf hfn => by
      obtain rfl : f = 5 := Option.some.inj (setSleeps_nm.symm.trans hf) |>.symm
      obtain rfl : fn = Tryz.f5 := (Option.some.inj (Tryz.func5.symm.trans hfn)).symm
      exact ⟨setSleeps_lk, fun j t ht => by
        rw [Tryz.params5] at ht
        have hm : t ∈ [22, 23, 56] := by simpa using Array.mem_of_getElem? ht
        have hall : ([22, 23, 56].all fun u => !Tryz.prog.wantsStandIn u) = true := by kernel_rfl
        exact (show Tryz.prog.wantsStandIn t = false by simpa using List.all_eq_true.1 hall t hm)⟩)
    setSleeps_gs
end Go.Proofs.YtilajmcellffiaaGreatDoor
