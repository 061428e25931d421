/- Proved: law20.TablePlays returns true for every room and every slice of acts, and its arguments read as before; no conditions -/
import Derived.Test.YtilajmcellffiaaGreatDoorTablePlays1
import Derived.Test.YtilajmcellffiaaGreatDoorCards
import Derived.SevenTiedAt
set_option linter.unusedVariables false
set_option linter.unusedSimpArgs false
set_option maxRecDepth 100000
namespace Go.Proofs.YtilajmcellffiaaGreatDoorX
open Go Go.RowKit
attribute [local irreducible] XS XC XA thenE blockE retE loopE loopS cutB cutN doneE SE
set_option maxHeartbeats 8000000 in
theorem dadd20_ret (l : List Tk) (x : Tk) (sl : Value) (hI : IdsOk 0 l) (hm : l.length ≤ 32) (w0 : World) (hL : Rf w0 sl (liveT l)) : Ret Tryz.prog 55 #[.agg #[sl, .int .i64 (l.length : Nat)], tkv x] w0 fun v w' => (∃ sl', v = .tuple #[.agg #[sl', .int .i64 (l.length : Nat)], .int .i64 (addI l x), .int .i64 (addE l x)] ∧ Rf w' sl' (liveT (addT l x))) ∧ Only [] w0 w' := by
  have hlv := live_len l
  obtain ⟨ad, cap, rfl⟩ := hL.form
  have hs := St.nil w0
  refine ret_of_xc Tryz.func55 (by kernel_rfl) rfl Tryz.ntmps55 rfl rfl rfl ?_
  repeat' (first|refine Nx.h ?_|fail)
  refine xc_region ?_ ?_; exact rfl
  refine bx hs (k := ?_); clear hs; intro b2 w1 hz1 hs
  refine bx hs (k := ?_); clear hs; intro b3 w2 hz2 hs
  refine al hs (k := ?_); clear hs; intro b4 w3 hz3 hs
  refine vs (k := ?_)
  refine vs (k := ?_)
  repeat' (first|refine Nx.h ?_|fail)
  refine xc_region ?_ ?_; exact rfl
  refine vs (k := ?_)
  refine vs (k := ?_)
  refine vs (k := ?_)
  have hE : addE l x = bif rightT x then (match freeT l with | some _ => 0 | none => 7) else 2 := rfl
  have hJ : addI l x = bif rightT x then (match freeT l with | some i => (i : Int) + 1 | none => 0) else 0 := rfl
  have hT : addT l x = bif rightT x then (match freeT l with | some i => l.set i { x with id := (i : Int) + 1 } | none => l) else l := rfl
  by_cases c1 : x.st < 1
  · have hr : rightT x = false := by unfold rightT; rw [decide_eq_false (by omega), Bool.false_and]
    rw [hr, cond_false] at hE hT hJ
    rw [hE, hT, hJ, decide_eq_true c1]
    repeat' (first|refine vs (k:=?_)|refine ps (k:=?_)|(refine stA hs (k:=?_);intro w hs)|refine qRg ?_|refine Nx.h ?_|refine qCt ?_|fail)
    first | refine rt (hq := ?_) | refine rt' (hq := ?_)
    exact ⟨⟨_, rfl, hL.only (hs.only0 rfl)⟩, hs.only0 rfl⟩
  rw [decide_eq_false c1]
  iterate 4 refine vs (k := ?_)
  by_cases c2 : x.st > 3
  · have hr : rightT x = false := by unfold rightT; rw [decide_eq_false (show ¬ x.st ≤ 3 by omega), Bool.and_false]
    rw [hr, cond_false] at hE hT hJ
    rw [hE, hT, hJ, decide_eq_true c2]
    repeat' (first|refine vs (k:=?_)|(refine stA hs (k:=?_);intro w hs)|refine qRg ?_|refine Nx.h ?_|refine qCt ?_|fail)
    first | refine rt (hq := ?_) | refine rt' (hq := ?_)
    exact ⟨⟨_, rfl, hL.only (hs.only0 rfl)⟩, hs.only0 rfl⟩
  have hr : rightT x = true := by unfold rightT; rw [decide_eq_true (by omega), decide_eq_true (by omega)]; rfl
  rw [hr, cond_true] at hE hT hJ
  rw [decide_eq_false c2]
  have h2 := hs.get (b := b2) (by repeat (first | exact At.head | (with_reducible apply At.tail)))
  have h3 := hs.get (b := b3) (by repeat (first | exact At.head | (with_reducible apply At.tail)))
  have h4 := hs.get (b := b4) (by repeat (first | exact At.head | (with_reducible apply At.tail)))
  have g4 := hs.new (b4, true) (by simp) rfl
  have g3 := hs.new (b3, true) (by simp) rfl
  simp only at g4 g3
  have hoA := hs.only0 rfl
  have hLA := hL.only hoA
  have nd := hs.nd
  obtain ⟨n23, n24, n34⟩ : b2 ≠ b3 ∧ b2 ≠ b4 ∧ b3 ≠ b4 := by
    simp only [List.map_cons, List.map_nil, List.nodup_cons, List.mem_cons, List.not_mem_nil, or_false, not_or] at nd
    exact ⟨fun e => nd.2.1 e.symm, fun e => nd.1.2 e.symm, fun e => nd.1.1 e.symm⟩
  clear nd
  repeat' (first|refine vs (k:=?_)|refine qRg ?_|refine Nx.h ?_|refine qCf ?_|fail)
  refine xc_cutB (fun (_ : Unit) => [(2, .pointer (some ⟨b2, 0, none⟩)), (4, .pointer (some ⟨b4, 0, none⟩))]) (fun _ w => freeT l = none ∧ Only [] w3 w) ?_ ?_
  · refine xc_loopS (fun (k : Nat) => [(2, .pointer (some ⟨b2, 0, none⟩)), (3, .pointer (some ⟨b3, 0, none⟩)), (4, .pointer (some ⟨b4, 0, none⟩)), (7, .int .i64 ((k : Int) + 1))]) (fun k w => k ≤ l.length ∧ (freeT (l.drop k)).map (· + k) = freeT l ∧ Only [] w3 w) (fun k => l.length - k) 0 (by (repeat (first | exact agree_nil | (apply agree_cons; exact rfl)))) ⟨Nat.zero_le _, by rw [List.drop_zero]; cases freeT l <;> rfl, Only.refl _ _⟩ fun k env wl ⟨hi, he, hol⟩ => ?_
    have k2 := hol.block h2 (by simp)
    have k3 := hol.block h3 (by simp)
    have k4 := hol.block h4 (by simp)
    clear hs
    have hs := (((St.nil wl).track k2 (by simp)).track k3 (by simpa using Ne.symm n23)).track k4 (by simpa using ⟨Ne.symm n34, Ne.symm n24⟩)
    repeat' (first|refine vs (k:=?_)|refine qRg ?_|refine Nx.h ?_|(refine xc_if rfl (fun hc=>?_) (fun hc=>?_))|fail)
    · have hlt : k < l.length := by omega
      have ei : IntKind.i64.wrap ((k : Int) + 1 + 1) = ((k + 1 : Nat) : Int) + 1 := by rw [wrap_i64]; omega
      have eF := findT_row (List.getElem?_eq_getElem hlt)
      rw [freeT_drop hlt] at he
      have hoB := hs.onlyF [] (by simp [k2, k3, k4]) (by simp [D0])
      (with_reducible apply xs_call); exact rfl; exact rfl; exact dget20_ret (liveT l) _ _ ((k : Int) + 1) (by omega) _ ((hLA.only hol).only hoB)
      rintro v w4 ⟨⟨y, rfl⟩, ho4⟩; replace hs := hs.call0 ho4
      rw [hasL_find hI, eF]
      by_cases hq : l[k].st = 0
      · rw [if_pos hq] at he
        rw [if_neg (fun h => h hq)]
        have hF : freeT l = some k := by rw [← he]; simp
        rw [hF] at hE hT hJ
        have hT2 : addT l x = l.set k { x with id := (k : Int) + 1 } := hT
        rw [hE, hJ, hT2, ← withR_set (x := { x with id := (k : Int) + 1 }) (right_st (x := x) hr) hI (by show (k : Int) + 1 = _; omega) hlt]
        repeat' (first|refine vs (k:=?_)|(refine st hs (k:=?_);intro w hs)|(refine stA hs (k:=?_);intro w hs)|(refine al hs (k:=?_);intro b w hz hs)|refine qRg ?_|refine Nx.h ?_|refine qCt ?_|fail)
        refine dr [8] hs (k := ?_); intro hX w hs
        refine tk 0 hX (k := ?_)
        refine tk 1 hX (k := ?_)
        refine tk 2 hX (k := ?_)
        refine tk 4 hX (k := ?_)
        refine tk 5 hX (k := ?_)
        refine tk 7 hX (k := ?_)
        have hoT := (hoA.trans hol).step (hs.onlyF [b3] (by simp [k2, k4]) (by simp [D0])) (fun k hk => .inr (by obtain rfl := List.mem_singleton.1 hk; exact g3))
        refine dt 3 hX (k := ?_)
        (with_reducible apply xs_call); exact rfl; exact rfl; exact dwith20_ret (liveT l) { x with id := (k : Int) + 1 } _ (by omega) _ (hL.only hoT)
        rintro v w5 ⟨hR, ho5⟩; replace hs := hs.call0 ho5
        obtain ⟨ad', cap', rfl⟩ := hR.form
        refine XS.nil ?_
        refine dn (k := ?_)
        refine tk 6 hX (k := ?_)
        refine dt 8 hX (k := ?_)
        have hoP := hoT.trans ho5
        have q2 := hs.get (b := b2) (by repeat (first | exact At.head | (with_reducible apply At.tail)))
        have q3 := hs.get (b := b3) (by repeat (first | exact At.head | (with_reducible apply At.tail)))
        have q4 := hs.get (b := b4) (by repeat (first | exact At.head | (with_reducible apply At.tail)))
        have q6 := hs.get At.head
        have hs := hs.rebase
        simp only [List.map_cons, List.map_nil] at hs
        refine stA hs (k := ?_); clear hs; intro w6 hs
        have ho6 := hs.onlyF [b4] (by simp [q2, q3, q6]) (by simp [D0])
        refine XS.nil ?_
        refine dn (k := ?_)
        refine tk 9 hX (k := ?_)
        refine tk 10 hX (k := ?_)
        refine en (k := ?_)
        repeat' (first|refine Nx.h ?_|fail)
        first | refine rt (hq := ?_) | refine rt' (hq := ?_)
        exact ⟨⟨_, rfl, hR.keep1 ho6 q4 (by decide)⟩, hoP.step ho6 (fun k hk => .inr (by obtain rfl := List.mem_singleton.1 hk; exact g4))⟩
      · rw [if_neg hq] at he
        rw [if_pos hq]
        repeat' (first|refine vs (k:=?_)|(refine stA hs (k:=?_);intro w hs)|(refine al hs (k:=?_);intro b w hz hs)|refine qRg ?_|refine Nx.h ?_|refine qCf ?_|fail)
        refine loopS_next (k + 1) (by show l.length - (k + 1) < l.length - k; omega) (by (repeat (first | exact agree_nil | (apply agree_cons; first | exact rfl | exact congrArg (Value.int .i64) ei)))) ⟨by show k + 1 ≤ _; omega, ?_, hol.trans (hs.onlyF [] (by simp [k2, k3, k4]) (by simp [D0]))⟩
        rw [← he]
        cases freeT (l.drop (k + 1)) with
        | none => rfl
        | some j => simp; omega
    · have e : k = l.length := by omega
      subst e
      rw [List.drop_length] at he
      exact cutB_exit () (by (repeat (first | exact agree_nil | (apply agree_cons; exact rfl)))) ⟨he.symm, hol.trans (hs.onlyF [] (by simp [k2, k3, k4]) (by simp [D0]))⟩
  · rintro _ env w ⟨he, hol⟩
    rw [he] at hE hT hJ
    rw [hE, hT, hJ]
    have k2 := hol.block h2 (by simp)
    have k4 := hol.block h4 (by simp)
    clear hs
    have hs := ((St.nil w).track k2 (by simp)).track k4 (by simpa using Ne.symm n24)
    repeat' (first|refine vs (k:=?_)|(refine stA hs (k:=?_);intro w hs)|refine qRg ?_|refine Nx.h ?_|fail)
    first | refine rt (hq := ?_) | refine rt' (hq := ?_)
    have hoZ := hs.onlyF [b4] (by simp [k2]) (by simp [D0])
    exact ⟨⟨_, rfl, ((hLA.only hol).keep1 hoZ k4 (by decide))⟩, (hoA.trans hol).step hoZ (fun k hk => .inr (by obtain rfl := List.mem_singleton.1 hk; exact g4))⟩
theorem neTk (q : Tk) : (!(cellEq (.int .i64 q.id) (.int .i64 q.id) && (cellEq (.int .u8 q.st) (.int .u8 q.st) && (cellEq (.int .i64 q.core) (.int .i64 q.core) && (cellEq (.int .u32 q.w) (.int .u32 q.w) && (cellEq (.int .u64 q.slice) (.int .u64 q.slice) && cellEq (.int .i64 q.lag) (.int .i64 q.lag))))))) = false := by rw [eqTk, decide_eq_true rfl]; rfl
set_option maxHeartbeats 8000000 in
theorem told20_ret (tb rb : Nat) (l : List Tk) (m : Int) (sl : Value) (hI : IdsOk 0 l) (w0 : World) (h : TabAt w0 tb rb l) (hL : Rf w0 sl (liveT l)) : Ret Tryz.prog 56 #[.pointer (some ⟨tb, 0, none⟩), .agg #[sl, .int .i64 m]] w0 fun v w' => v = .bool true ∧ Only [] w0 w' := by
  have hlv := live_len l
  have hm : l.length ≤ 32 := by obtain ⟨_, _, _, _, h3, _⟩ := h; exact h3
  have hlf := fun x (hx : x ∈ liveT l) => live_find hI hx
  have hst := statesT_all hI
  obtain ⟨ad, cap, rfl, hD⟩ := hL
  rw [List.length_map]
  have hs := St.nil w0
  refine ret_of_xc Tryz.func56 (by kernel_rfl) rfl Tryz.ntmps56 rfl rfl rfl ?_
  repeat' (first|refine Nx.h ?_|fail)
  refine xc_region ?_ ?_; exact rfl
  refine bx hs (k := ?_); clear hs; intro b3 w1 hz1 hs
  have h3 := hs.get At.head
  have g3 := hs.new (b3, true) (by simp) rfl
  simp only at g3
  have ho1 := hs.only0 rfl
  repeat' (first|refine vs (k:=?_)|refine qRg ?_|refine Nx.h ?_|fail)
  (with_reducible apply xs_call); exact rfl; exact rfl; exact tasks_ret tb rb l _ (h.only (hs.only0 rfl))
  rintro v w2 ⟨⟨G2, hG2, _⟩, ho2⟩
  have hoA := ho1.trans ho2
  have e3 := ho2.block h3 (by simp)
  obtain ⟨ad2, cap2, rfl, hD2⟩ := SlV.ls hG2 (xs := (liveT l).map Tk.cells) rfl (List.length_map _).symm (fun x hx => by obtain ⟨y, _, rfl⟩ := List.mem_map.1 hx; rfl)
  rw [List.length_map] at *
  have h2 := h.only hoA
  clear hs
  have hs := (St.nil w2).track e3 (by simp)
  refine vs (k := ?_)
  repeat' (first|refine Nx.h ?_|fail)
  refine xc_region ?_ ?_; exact rfl
  iterate 6 refine vs (k := ?_)
  rw [show ((((liveT l).length : Nat) : Int) != (((liveT l).length : Nat) : Int)) = false by simp]
  repeat' (first|refine vs (k:=?_)|refine qRg ?_|refine Nx.h ?_|refine qCf ?_|fail)
  refine xc_cutB (fun (v6 : Value) => [(0, .pointer (some ⟨tb, 0, none⟩)), (6, v6)]) (fun v6 w => Only [] w2 w ∧ ∃ G, SlV w 3 1 v6 ((liveT l).map Tk.id).length (ints ((liveT l).map Tk.id)) G ∧ ∀ k ∈ G, w2.heap.size ≤ k) ?_ ?_
  · refine xc_loopS (fun (s : Nat × Value) => [(0, .pointer (some ⟨tb, 0, none⟩)), (3, .pointer (some ⟨b3, 0, none⟩)), (6, s.2), (19, .slice ad2 (liveT l).length cap2), (20, .int .i64 ((liveT l).length : Nat)), (21, .int .i64 (s.1 : Nat))])
      (fun s w => s.1 ≤ (liveT l).length ∧ Only [] w2 w ∧ ∃ G, SlV w 3 1 s.2 (((liveT l).take s.1).map Tk.id).length (ints (((liveT l).take s.1).map Tk.id)) G ∧ ∀ k ∈ G, w2.heap.size ≤ k) (fun s => (liveT l).length - s.1) (0, .slice none 0 0) (by (repeat (first | exact agree_nil | (apply agree_cons; exact rfl)))) ⟨Nat.zero_le _, hs.onlyF [] (by simp [e3]) (by simp [D0]), [], .inl ⟨rfl, rfl, rfl, rfl⟩, by simp⟩ fun s env wl ⟨hi, hol, hT⟩ => ?_
    obtain ⟨i, v6⟩ := s
    simp only at hi hT
    obtain ⟨G, hG, hGn⟩ := hT
    have k3 := hol.block e3 (by simp)
    clear hs
    by_cases hlt : i < (liveT l).length
    · obtain ⟨b, off, cs, fz, hab, _, hb, hcs⟩ := hD (fun h => by rw [List.map_eq_nil_iff.1 h] at hlt; cases hlt)
      obtain ⟨b', off', cs', fz', hab2, _, hb2, hcs2⟩ := hD2 (fun h => by rw [List.map_eq_nil_iff.1 h] at hlt; cases hlt)
      have hpk := hcs i (Tk.cells (liveT l)[i]) (by rw [List.getElem?_map, List.getElem?_eq_getElem hlt]; rfl)
      have hpk2 := hcs2 i (Tk.cells (liveT l)[i]) (by rw [List.getElem?_map, List.getElem?_eq_getElem hlt]; rfl)
      have ei := nx64 (m := (liveT l).length) hlt (by omega)
      obtain ⟨j, f1, f2, f3⟩ := hlf _ (List.getElem_mem hlt)
      have hid : In64 (liveT l)[i].id := by
        obtain ⟨h1, h2⟩ := findT_lt f1
        unfold In64; omega
      have et : ((liveT l).take (i + 1)).map Tk.id = ((liveT l).take i).map Tk.id ++ [(liveT l)[i].id] := by rw [take_next hlt, List.map_append]; rfl
      have hla : (((liveT l).take i).map Tk.id).length ≤ 32 := by rw [List.length_map, List.length_take]; omega
      have hbl := ((hoA.trans hol)).block hb (by simp)
      have hbl2 := hol.block hb2 (by simp)
      have hlG := hG.lt
      generalize (liveT l)[i] = q at *
      generalize ((liveT l).take i).map Tk.id = A at *
      rw [hab2]
      rw [hab] at k3
      have hs := (St.nil wl).track k3 (by simp)
      repeat' (first|refine vs (k:=?_)|refine qRg ?_|refine Nx.h ?_|(refine xc_if rfl (fun hc=>?_) (fun hc=>?_))|fail)
      · refine ix (h0 := (by omega)) (h1 := (by omega)) (k := ?_)
        refine lhK (vs := q.cells) hbl2 hpk2 (k := ?_)
        refine al hs (k := ?_); clear hs; intro b8 w6 hz6 hs
        refine vs (k := ?_)
        refine stA hs (k := ?_); clear hs; intro w7 hs
        repeat' (first|refine vs (k:=?_)|refine qRg ?_|refine Nx.h ?_|fail)
        have ho7 := hs.onlyF [] (by simp [k3]) (by simp [D0])
        (with_reducible apply xs_call); exact rfl; exact rfl; exact ttask_ret tb rb l q.id _ ((h2.only hol).only ho7) hid
        rw [f1, f3]
        rintro v w8 ⟨rfl, ho8⟩; replace hs := hs.call0 ho8
        repeat' (first|refine vs (k:=?_)|(refine stA hs (k:=?_);intro w hs)|(refine al hs (k:=?_);intro b w hz hs)|refine Nx.h ?_|fail)
        have ho9 := hs.onlyF [] (by simp [k3]) (by simp [D0])
        have hbl9 := ho9.block hbl (by simp)
        have hs := hs.trackT hbl9
        refine dr [] hs (k := ?_); intro hX w hs
        refine tk 0 hX (k := ?_)
        refine tk 1 hX (k := ?_)
        refine tk 2 hX (k := ?_)
        refine tk 3 hX (k := ?_)
        refine tk 4 hX (hr := fun w' hH => r_indexAddr tabOk rfl rfl rfl (by omega) (by omega)) (k := ?_)
        refine tk 5 hX (hr := fun w' hH => r_loadA tabOk rfl rfl (hH rfl) At.head hpk) (k := ?_)
        refine tk 6 hX (k := ?_)
        refine xa_set 39 (v := .bool false) (congrArg Value.bool (neTk q)) ?_
        refine tk 7 hX (k := ?_)
        refine tk 8 hX (k := ?_)
        refine tk 9 hX (k := ?_)
        refine tk 10 hX (k := ?_)
        refine xa_set 43 (v := .bool false) (congrArg Value.bool (neTk q)) ?_
        refine tk 11 hX (k := ?_)
        refine tk 12 hX (k := ?_)
        refine tk 13 hX (k := ?_)
        refine tk 14 hX (k := ?_)
        refine tk 15 hX (k := ?_)
        refine en (k := ?_)
        repeat' (first|refine vs (k:=?_)|(refine bs hs (k:=?_);intro b w hz hs)|refine qRg ?_|refine Nx.h ?_|refine qCf ?_|fail)
        have hbN := hs.get At.head
        have hoN := hs.onlyF [] (by simp [k3, hbl]) (by simp [D0])
        refine xs_appendW tabOk rfl rfl rfl rfl rfl rfl rfl (by decide) (lit_cells (news := [.int .i64 q.id]) hbN) (by simp [Value.oneCell']) (hG.keep hoN (by simp)) (by omega) (by omega) ?_
        intro v9 w9 ⟨G', hG', hGm⟩ ho9'
        have hzN := hoN.size
        have hzl := hol.size
        clear hs
        have hs := St.nil w9
        repeat' (first|refine vs (k:=?_)|refine qRg ?_|refine Nx.h ?_|fail)
        refine loopS_next (i + 1, v9) (by show (liveT l).length - (i + 1) < (liveT l).length - i; omega) (by (repeat (first | exact agree_nil | (apply agree_cons; first | exact rfl | exact congrArg (Value.int .i64) ei)))) ⟨by show i + 1 ≤ _; omega, ((hol.trans hoN).news hGn ho9').trans (hs.only0 rfl), G', ?_, fun k hk => ?_⟩
        · simp only [et]
          exact SlV.app (w' := w9) (SlV.keep hG' (hs.only0 rfl) (by simp))
        · rcases hGm k hk with h | h
          · exact hGn k h
          · omega
      · exact absurd hlt (by omega)
    · have hs := (St.nil wl).track k3 (by simp)
      repeat' (first|refine vs (k:=?_)|refine qRg ?_|refine Nx.h ?_|(refine xc_if rfl (fun hc=>?_) (fun hc=>?_))|fail)
      · exact absurd (by omega) hlt
      · have e : i = (liveT l).length := by omega
        subst e
        rw [List.take_length] at hG
        exact cutB_exit v6 (by (repeat (first | exact agree_nil | (apply agree_cons; exact rfl)))) ⟨hol, G, hG, hGn⟩
  · rintro v6 env w ⟨hol, G, hG, hGn⟩
    have hT3 := h2.only hol
    clear hs
    have hs := St.nil w
    repeat' (first|refine vs (k:=?_)|(refine bs hs (k:=?_);intro b w hz hs)|refine qRg ?_|refine Nx.h ?_|fail)
    have hoa := hs.only0 rfl
    (with_reducible apply xs_call); exact rfl; exact rfl; exact states_ret tb rb l [1, 2, 3] _ _ (hT3.only hoa) (by decide) (lit3 (hs.get At.head))
    rintro v w4 ⟨⟨Ga, hGa, _⟩, ho4⟩
    have hoe := hoa.trans ho4
    rw [hst] at hGa
    clear hs
    have hs := St.nil w4
    refine vs (k := ?_)
    (with_reducible apply xs_call); exact rfl; exact rfl; exact eqI_ret _ _ ((liveT l).map Tk.id) ((liveT l).map Tk.id) (by rw [List.length_map]; omega) _ hGa.lsI (hG.keep hoe (by simp)).lsI
    rintro v3 w9 ⟨rfl, ho9⟩
    rw [decide_eq_true rfl]
    clear hs
    have hs := St.nil w9
    repeat' (first|refine vs (k:=?_)|refine Nx.h ?_|fail)
    first | refine rt (hq := ?_) | refine rt' (hq := ?_)
    exact ⟨rfl, ((hoA.trans hol).trans (hoe.trans ho9)).trans (hs.only0 rfl)⟩
end Go.Proofs.YtilajmcellffiaaGreatDoorX

namespace Go.Proofs.YtilajmcellffiaaGreatDoorX
open Go Go.RowKit
attribute [local irreducible] XS XC XA thenE blockE retE loopE loopS cutB cutN doneE SE
theorem Rf.keepT {w w' : World} {sl : Value} {L l : List Tk} {tb rb : Nat} (h : Rf w sl L) (hT : TabAt w tb rb l) (ho : Only [rb] w w') : Rf w' sl L := by
  obtain ⟨cap, rest, h1, h2, _⟩ := hT
  exact h.keep1 ho h2 (by decide)
abbrev rfO (sl : Value) (m : Nat) : Obj := .cells #[sl, .int .i64 (m : Nat)] 103 (0, 0)
theorem TabAt.notR {w : World} {tb rb : Nat} {l : List Tk} (h : TabAt w tb rb l) {b m : Nat} {sl : Value} (hb : w.heap[b]? = some (rfO sl m)) : b ≠ tb ∧ b ≠ rb := by
  obtain ⟨cap, rest, h1, h2, _⟩ := h
  constructor
  · rintro rfl; rw [h1] at hb; injection hb with hb; injection hb with _ he; exact absurd he (by decide)
  · rintro rfl; rw [h2] at hb; injection hb with hb; injection hb with _ he; exact absurd he (by decide)
structure Both (w0 : World) (n : Int) (b6 : Nat) (l : List Tk) (tb rb : Nat) (sl : Value) (w : World) : Prop where
  ids : IdsOk 0 l
  len : l.length = sizeT n
  tab : TabAt w tb rb l
  rf : Rf w sl (liveT l)
  box : w.heap[b6]? = some (rfO sl (sizeT n))
  only : Only [] w0 w
  gt : w0.heap.size ≤ tb
  gr : w0.heap.size ≤ rb
theorem Both.le {w0 : World} {n : Int} {b6 : Nat} {l : List Tk} {tb rb : Nat} {sl : Value} {w : World} (h : Both w0 n b6 l tb rb sl w) : l.length ≤ 32 := by
  have := h.len
  unfold sizeT at this
  omega
theorem Both.keep {w0 : World} {n : Int} {b6 : Nat} {l : List Tk} {tb rb : Nat} {sl : Value} {w w' : World} (h : Both w0 n b6 l tb rb sl w) (ho : Only [] w w') : Both w0 n b6 l tb rb sl w' :=
  ⟨h.ids, h.len, h.tab.only ho, h.rf.only ho, ho.block h.box (by simp), h.only.trans ho, h.gt, h.gr⟩
set_option maxHeartbeats 16000000 in
theorem tablePlays_ret (n : Int) (xs : List Ac) (sl : Value) (hn : In64 n) (hx : ∀ a ∈ xs, a.In) (w0 : World) (hL : LsX w0 7 sl (xs.map Ac.cells)) (ht : Pows w0) : Ret Tryz.prog 9 #[.int .i64 n, sl] w0 fun v w' => v = .bool true ∧ Only [] w0 w' := by
  obtain ⟨ad, cap, rfl, hD⟩ := hL
  rw [List.length_map]
  have hs := St.nil w0
  refine ret_of_xc Tryz.func9 (by kernel_rfl) rfl Tryz.ntmps9 rfl rfl rfl ?_
  repeat' (first|refine vs (k:=?_)|refine qRg ?_|refine Nx.h ?_|fail)
  (with_reducible apply xs_call); exact rfl; exact rfl; exact awake20_ret _ (tab_only ht (hs.only0 rfl))
  rintro v w' ⟨rfl, ho⟩; replace hs := hs.call0 ho; repeat' (first|refine vs (k:=?_)|refine qRg ?_|refine Nx.h ?_|refine qCf ?_|(refine xc_if rfl (fun hc=>?_) (fun hc=>?_))|fail)
  · first | refine rt (hq := ?_) | refine rt' (hq := ?_)
    exact ⟨rfl, hs.only0 rfl⟩
  have hm : xs.length ≤ 100 := by omega
  (with_reducible apply xs_call); exact rfl; exact rfl; exact tnew_ret n _
  rintro v w1 ⟨⟨tb, rb, rfl, hT, g1, g2, hne⟩, ho1⟩
  have hoA := (hs.only0 rfl).trans ho1
  have hz := (hs.only0 rfl).size
  clear hs
  have hs := St.nil w1
  refine vs (k := ?_)
  (with_reducible apply xs_call); exact rfl; exact rfl; exact dnew20_ret n _
  rintro v w2 ⟨rfl, ho2⟩
  have hoB := hoA.trans ho2
  have hT2 := hT.only ho2
  clear hs
  have hs := St.nil w2
  refine al hs (k := ?_); clear hs; intro b6 w3 hz3 hs
  refine vs (k := ?_)
  refine stA hs (k := ?_); clear hs; intro w4 hs
  have h6 := hs.get At.head
  have g6 := hs.new (b6, true) (by simp) rfl
  simp only at g6
  have hzB := hoB.size
  have hoC := hs.only0 rfl
  have hB : Both w0 n b6 (List.replicate (sizeT n) .zero) tb rb (.slice none 0 0) w4 := by
    refine ⟨IdsOk.rep _ _, List.length_replicate, hT2.only hoC, ?_, h6, hoB.trans hoC, by omega, by omega⟩
    have e : liveT (List.replicate (sizeT n) Tk.zero) = [] := by
      unfold liveT
      exact List.filter_eq_nil_iff.2 fun x hx => by rw [List.eq_of_mem_replicate hx]; decide
    rw [e]
    exact LsAt.nil _ _ _
  clear hs hT hT2 h6
  have hs := St.nil w4
  repeat' (first|refine vs (k:=?_)|refine qRg ?_|refine Nx.h ?_|fail)
  refine xc_cutB (fun (_ : Unit) => []) (fun _ w => Only [] w0 w) ?_ ?_
  · refine xc_loopS (fun (x : Nat × List Tk × Nat × Nat × Value) => [(5, .pointer (some ⟨x.2.2.1, 0, none⟩)), (6, .pointer (some ⟨b6, 0, none⟩)), (26, .slice ad xs.length cap), (27, .int .i64 (xs.length : Nat)), (28, .int .i64 (x.1 : Nat))])
      (fun x w => x.1 ≤ xs.length ∧ Both w0 n b6 x.2.1 x.2.2.1 x.2.2.2.1 x.2.2.2.2 w) (fun x => xs.length - x.1) (0, List.replicate (sizeT n) .zero, tb, rb, .slice none 0 0) (by (repeat (first | exact agree_nil | (apply agree_cons; exact rfl)))) ⟨Nat.zero_le _, hB.keep (hs.only0 rfl)⟩ fun x env wl ⟨hi, hB⟩ => ?_
    clear hs
    obtain ⟨i, l, tb, rb, sl⟩ := x
    simp only at hi hB
    have hbx := hB.box
    have hs := (St.nil wl).track hbx (by simp)
    repeat' (first|refine vs (k:=?_)|refine qRg ?_|refine Nx.h ?_|(refine xc_if rfl (fun hc=>?_) (fun hc=>?_))|fail)
    · have hlt : i < xs.length := by omega
      obtain ⟨b, off, cs, E, fz, rfl, hb, hcs⟩ := hD (fun h => by have := congrArg List.length h; rw [List.length_map, List.length_nil] at this; omega)
      have hpk := hcs i (Ac.cells xs[i]) (by rw [List.getElem?_map, List.getElem?_eq_getElem hlt]; rfl)
      have ei := nx64 (m := xs.length) hlt (by omega)
      obtain ⟨⟨d0, d1⟩, hq⟩ := hx xs[i] (List.getElem_mem hlt)
      obtain ⟨i1, ⟨s0, s1⟩, _⟩ := hq
      generalize xs[i] = q at *
      refine ix (h0 := (by omega)) (h1 := (by omega)) (k := ?_)
      refine lhK (vs := q.cells) (hB.only.block hb (by simp)) hpk (k := ?_)
      refine al hs (k := ?_); clear hs; intro b8 w6 hz6 hs
      refine stA hs (k := ?_); clear hs; intro w7 hs
      have h8 := hs.get (b := b8) (by repeat (first | exact At.head | (with_reducible apply At.tail)))
      have ho7 := hs.onlyF [] (by simp [hbx]) (by simp [D0])
      have hB7 := hB.keep ho7
      have hb7 := hB7.box
      clear hs
      have n68 : b8 ≠ b6 := fun e => by rw [e, hb7] at h8; injection h8 with h8; injection h8 with _ he; exact absurd he (by decide)
      have hs := ((St.nil w7).track hb7 (by simp)).track h8 (by simpa using n68)
      have n8 := hB7.tab.not h8
      have n6 := hB7.tab.notR hb7
      repeat' (first|refine vs (k:=?_)|refine qRg ?_|refine Nx.h ?_|fail)
      refine rem8 (b := 6) d0 (by decide) (k := ?_)
      refine XS.nil ?_
      refine then_of ?_
      refine xc_cutN (fun (x : List Tk × Nat × Nat × Value × Int) => [(5, .pointer (some ⟨x.2.1, 0, none⟩)), (6, .pointer (some ⟨b6, 0, none⟩)), (9, .int .i64 x.2.2.2.2), (10, .int .i64 x.2.2.2.2), (26, .slice (some ⟨b, off, none⟩) xs.length cap), (27, .int .i64 (xs.length : Nat)), (28, .int .i64 (i : Nat))])
        (fun x w => Both w0 n b6 x.1 x.2.1 x.2.2.1 x.2.2.2.1 w) ?_ ?_
      · clear hc
        repeat' (first|refine vs (k:=?_)|refine qRg ?_|refine Nx.h ?_|(refine xc_if rfl (fun hc=>?_) (fun hc=>?_))|fail)
        · have ho8 := hs.onlyF [] (by simp [hb7, h8]) (by simp [D0])
          have hB8 := hB7.keep ho8
          (with_reducible apply xs_call); exact rfl; exact rfl; exact tset_ret tb rb l q.x _ hB8.tab i1
          rintro v w8 ⟨rfl, hT8, ho9⟩
          have k6 := ho9.block hB8.box (by simpa using n6.2)
          have k8 := ho9.block (ho8.block h8 (by simp)) (by simpa using n8.2)
          have hR8 := hB8.rf.keepT hB8.tab ho9
          have hoZ := hB8.only.step ho9 (fun k hk => .inr (by obtain rfl := List.mem_singleton.1 hk; exact hB.gr))
          clear hs
          have hs := ((St.nil w8).track k6 (by simp)).track k8 (by simpa using n68)
          repeat' (first|refine vs (k:=?_)|refine qRg ?_|refine Nx.h ?_|fail)
          have hoa := hs.onlyF [] (by simp [k6, k8]) (by simp [D0])
          (with_reducible apply xs_call); exact rfl; exact rfl; exact dset20_ret l q.x _ _ hB.ids hB.le _ (hR8.only hoa)
          rintro v w9 ⟨⟨sl', rfl, hR9⟩, hob⟩
          obtain ⟨ad', cap', rfl⟩ := hR9.form
          have hoc := hoa.trans hob
          have m6 := hoc.block k6 (by simp)
          have m8 := hoc.block k8 (by simp)
          have hT9 := hT8.only hoc
          clear hs
          have hs := ((St.nil w9).track m6 (by simp)).track m8 (by simpa using n68)
          repeat' (first|refine vs (k:=?_)|(refine stA hs (k:=?_);intro w hs)|refine Nx.h ?_|fail)
          have hod := hs.onlyF [b6] (by simp [m8]) (by simp [D0])
          have n6' := hT9.notR m6
          exact cutN_normal (setT l q.x, tb, rb, _, setE l q.x) (by (repeat (first | exact agree_nil | (apply agree_cons; exact rfl)))) ⟨hB.ids.sets q.x, by show (setT l q.x).length = _; rw [setT_len]; exact hB.len, hT9.keep hod (by simpa using Ne.symm n6'.1) (by simpa using Ne.symm n6'.2), hR9.keep1 hod m6 (by decide), hs.get (b := b6) (by repeat (first | exact At.head | (with_reducible apply At.tail))), (hoZ.trans hoc).step hod (fun k hk => .inr (by obtain rfl := List.mem_singleton.1 hk; omega)), hB.gt, hB.gr⟩
        · have ho8 := hs.onlyF [] (by simp [hb7, h8]) (by simp [D0])
          have hB8 := hB7.keep ho8
          (with_reducible apply xs_call); exact rfl; exact rfl; exact tdrop_ret tb rb l q.x.id _ hB8.tab i1
          rintro v w8 ⟨rfl, hT8, ho9⟩
          have k6 := ho9.block hB8.box (by simpa using n6.2)
          have k8 := ho9.block (ho8.block h8 (by simp)) (by simpa using n8.2)
          have hR8 := hB8.rf.keepT hB8.tab ho9
          have hoZ := hB8.only.step ho9 (fun k hk => .inr (by obtain rfl := List.mem_singleton.1 hk; exact hB.gr))
          clear hs
          have hs := ((St.nil w8).track k6 (by simp)).track k8 (by simpa using n68)
          repeat' (first|refine vs (k:=?_)|refine qRg ?_|refine Nx.h ?_|fail)
          have hoa := hs.onlyF [] (by simp [k6, k8]) (by simp [D0])
          (with_reducible apply xs_call); exact rfl; exact rfl; exact ddrop20_ret l _ _ q.x.id hB.ids hB.le _ (hR8.only hoa)
          rintro v w9 ⟨⟨sl', rfl, hR9⟩, hob⟩
          obtain ⟨ad', cap', rfl⟩ := hR9.form
          have hoc := hoa.trans hob
          have m6 := hoc.block k6 (by simp)
          have m8 := hoc.block k8 (by simp)
          have hT9 := hT8.only hoc
          clear hs
          have hs := ((St.nil w9).track m6 (by simp)).track m8 (by simpa using n68)
          repeat' (first|refine vs (k:=?_)|(refine stA hs (k:=?_);intro w hs)|refine Nx.h ?_|fail)
          have hod := hs.onlyF [b6] (by simp [m8]) (by simp [D0])
          have n6' := hT9.notR m6
          exact cutN_normal (dropT l q.x.id, tb, rb, _, errT (findT l q.x.id)) (by (repeat (first | exact agree_nil | (apply agree_cons; exact rfl)))) ⟨hB.ids.drop q.x.id, by show (dropT l q.x.id).length = _; rw [dropT_len]; exact hB.len, hT9.keep hod (by simpa using Ne.symm n6'.1) (by simpa using Ne.symm n6'.2), hR9.keep1 hod m6 (by decide), hs.get (b := b6) (by repeat (first | exact At.head | (with_reducible apply At.tail))), (hoZ.trans hoc).step hod (fun k hk => .inr (by obtain rfl := List.mem_singleton.1 hk; omega)), hB.gt, hB.gr⟩
        · have ho8 := hs.onlyF [] (by simp [hb7, h8]) (by simp [D0])
          have hB8 := hB7.keep ho8
          (with_reducible apply xs_call); exact rfl; exact rfl; exact tclone_ret tb rb l _ hB8.tab
          rintro v w8 ⟨⟨tb2, rb2, rfl, hC, c1, c2, c3⟩, ho9⟩
          have hB9 := hB8.keep ho9
          have k6 := hB9.box
          have k8 := ho9.block (ho8.block h8 (by simp)) (by simp)
          have lt2 := hB8.tab.lt
          clear hs
          have hs := ((St.nil w8).track k6 (by simp)).track k8 (by simpa using n68)
          repeat' (first|refine vs (k:=?_)|refine qRg ?_|refine Nx.h ?_|fail)
          have hoa := hs.onlyF [] (by simp [k6, k8]) (by simp [D0])
          (with_reducible apply xs_call); exact rfl; exact rfl; exact tdrop_ret tb rb l q.x.id _ (hB9.tab.only hoa) i1
          rintro v w9 ⟨rfl, hT9, hob⟩
          have m6 := hob.block (hoa.block k6 (by simp)) (by simpa using n6.2)
          have hC9 := (hC.only hoa).keep hob (by simp; omega) (by simp; omega)
          have hR9 := (hB9.rf.only hoa).keepT (hB9.tab.only hoa) hob
          have hoZ := (hB9.only.trans hoa).step hob (fun k hk => .inr (by obtain rfl := List.mem_singleton.1 hk; exact hB.gr))
          have hzz := hB8.only.size
          clear hs
          have hs := (St.nil w9).track m6 (by simp)
          repeat' (first|refine vs (k:=?_)|refine qRg ?_|refine Nx.h ?_|fail)
          have hoc := hs.onlyF [] (by simp [m6]) (by simp [D0])
          exact cutN_normal (l, tb2, rb2, sl, 0) (by (repeat (first | exact agree_nil | (apply agree_cons; exact rfl)))) ⟨hB.ids, hB.len, hC9.only hoc, hR9.only hoc, hoc.block m6 (by simp), hoZ.trans hoc, by show w0.heap.size ≤ tb2; omega, by show w0.heap.size ≤ rb2; omega⟩
        · have ho8 := hs.onlyF [] (by simp [hb7, h8]) (by simp [D0])
          have hB8 := hB7.keep ho8
          (with_reducible apply xs_call); exact rfl; exact rfl; exact tadd_ret tb rb l q.x _ hB8.tab
          rintro v w8 ⟨rfl, hT8, ho9⟩
          have k6 := ho9.block hB8.box (by simpa using n6.2)
          have k8 := ho9.block (ho8.block h8 (by simp)) (by simpa using n8.2)
          have hR8 := hB8.rf.keepT hB8.tab ho9
          have hoZ := hB8.only.step ho9 (fun k hk => .inr (by obtain rfl := List.mem_singleton.1 hk; exact hB.gr))
          have hA := dadd20_ret l q.x sl hB.ids hB.le
          rw [hB.len] at hA
          clear hs
          have hs := ((St.nil w8).track k6 (by simp)).track k8 (by simpa using n68)
          repeat' (first|refine vs (k:=?_)|refine qRg ?_|refine Nx.h ?_|fail)
          have hoa := hs.onlyF [] (by simp [k6, k8]) (by simp [D0])
          (with_reducible apply xs_call); exact rfl; exact rfl; exact hA _ (hR8.only hoa)
          rintro v w9 ⟨⟨sl', rfl, hR9⟩, hob⟩
          obtain ⟨ad', cap', rfl⟩ := hR9.form
          have hoc := hoa.trans hob
          have m6 := hoc.block k6 (by simp)
          have m8 := hoc.block k8 (by simp)
          have hT9 := hT8.only hoc
          clear hs hA
          have hs := ((St.nil w9).track m6 (by simp)).track m8 (by simpa using n68)
          iterate 4 refine vs (k := ?_)
          refine al hs (k := ?_); clear hs; intro b14 w10 hz10 hs
          refine stA hs (k := ?_); clear hs; intro w11 hs
          refine vs (k := ?_)
          refine vs (k := ?_)
          repeat' (first|refine Nx.h ?_|fail)
          refine xc_region ?_ ?_; exact rfl
          iterate 3 refine vs (k := ?_)
          rw [show (addI l q.x != addI l q.x) = false by simp]
          repeat' (first|refine vs (k:=?_)|(refine stA hs (k:=?_);intro w hs)|refine qRg ?_|refine Nx.h ?_|refine qCf ?_|fail)
          have hod := hs.onlyF [b6] (by simp [m8]) (by simp [D0])
          have n6' := hT9.notR m6
          exact cutN_normal (addT l q.x, tb, rb, _, addE l q.x) (by (repeat (first | exact agree_nil | (apply agree_cons; exact rfl)))) ⟨hB.ids.add q.x, by show (addT l q.x).length = _; rw [addT_len]; exact hB.len, hT9.keep hod (by simpa using Ne.symm n6'.1) (by simpa using Ne.symm n6'.2), hR9.keep1 hod m6 (by decide), hs.get (b := b6) (by repeat (first | exact At.head | (with_reducible apply At.tail))), (hoZ.trans hoc).step hod (fun k hk => .inr (by obtain rfl := List.mem_singleton.1 hk; omega)), hB.gt, hB.gr⟩
      clear hB hB7 hs
      rintro ⟨l2, tb2, rb2, sl2, e⟩ env w12 hB
      simp only at hB
      have hb12 := hB.box
      have hs := (St.nil w12).track hb12 (by simp)
      repeat' (first|refine Nx.h ?_|fail)
      refine xc_region ?_ ?_; exact rfl
      iterate 3 refine vs (k := ?_)
      rw [show (e != e) = false by simp]
      repeat' (first|refine vs (k:=?_)|fail)
      have hoa := hs.onlyF [] (by simp [hb12]) (by simp [D0])
      (with_reducible apply xs_call); exact rfl; exact rfl; exact told20_ret tb2 rb2 l2 _ _ hB.ids _ (hB.tab.only hoa) (hB.rf.only hoa)
      rintro v w13 ⟨rfl, ho13⟩; replace hs := hs.call0 ho13
      repeat' (first|refine vs (k:=?_)|refine qRg ?_|refine Nx.h ?_|refine qCf ?_|fail)
      exact loopS_next (i + 1, l2, tb2, rb2, sl2) (by show xs.length - (i + 1) < xs.length - i; omega) (by (repeat (first | exact agree_nil | (apply agree_cons; first | exact rfl | exact congrArg (Value.int .i64) ei)))) ⟨by show i + 1 ≤ _; omega, hB.keep (hs.onlyF [] (by simp [hb12]) (by simp [D0]))⟩
    · exact cutB_exit () (by (repeat (first | exact agree_nil | (apply agree_cons; exact rfl)))) (hB.only.trans (hs.onlyF [] (by simp [hbx]) (by simp [D0])))
  · rintro _ env w ho
    clear hs
    have hs := St.nil w
    repeat' (first|refine vs (k:=?_)|refine qRg ?_|refine Nx.h ?_|fail)
    first | refine rt (hq := ?_) | refine rt' (hq := ?_)
    exact ⟨rfl, ho.trans (hs.only0 rfl)⟩
end Go.Proofs.YtilajmcellffiaaGreatDoorX

namespace Go.Proofs.YtilajmcellffiaaGreatDoorX
open Go Go.RowKit Go.ChangeShapes Go.WideShapes Go.ChangeAt
set_option maxRecDepth 100000 in
theorem tablePlays_lifted (os : Os) (started : os.Started) (H : Type) (enc : TypeId × Value → H) :
    ReturnsInHanded {} Tryz.checked os 9 .any (fun w args => (YtilajmcellffiaaGreatDoor.Rows.tablePlaysSpec.pre enc Tryz.prog Tryz.f9 [] false w args ∧ laidMetH Tryz.prog [("math/bits.deBruijn32tab", YtilajmcellffiaaGreatDoor.Rows.laid_math_bits_deBruijn32tab), ("math/bits.deBruijn64tab", YtilajmcellffiaaGreatDoor.Rows.laid_math_bits_deBruijn64tab), ("internal/strconv.uint64pow10", YtilajmcellffiaaGreatDoor.Rows.laid_internal_strconv_uint64pow10)] w) ∧ sizedMet enc Tryz.prog Tryz.f9 (OpenSpec.ofChange YtilajmcellffiaaGreatDoor.Rows.tablePlaysSpec) false w args) (YtilajmcellffiaaGreatDoor.Rows.tablePlaysSpec.post enc Tryz.prog Tryz.f9 false true false false) := by
  refine returnsInHanded_of_change_and (C := Tryz.checked) (X := fun w _ => laidMetH Tryz.prog [("math/bits.deBruijn32tab", YtilajmcellffiaaGreatDoor.Rows.laid_math_bits_deBruijn32tab), ("math/bits.deBruijn64tab", YtilajmcellffiaaGreatDoor.Rows.laid_math_bits_deBruijn64tab), ("internal/strconv.uint64pow10", YtilajmcellffiaaGreatDoor.Rows.laid_internal_strconv_uint64pow10)] w) (fun _ _ _ hh h => h.of_heap hh) own started (by kernel_rfl) Tryz.func9
    (ChangeSpec.witness_shaped (enc := enc) (C := Tryz.checked) (os := os) (X := fun w _ => laidMetH Tryz.prog [("math/bits.deBruijn32tab", YtilajmcellffiaaGreatDoor.Rows.laid_math_bits_deBruijn32tab), ("math/bits.deBruijn64tab", YtilajmcellffiaaGreatDoor.Rows.laid_math_bits_deBruijn64tab), ("internal/strconv.uint64pow10", YtilajmcellffiaaGreatDoor.Rows.laid_internal_strconv_uint64pow10)] w) false (World.doorLaid Tryz.prog 24 os) #[.int .i64 0, .slice none 0 0] 8 rfl (World.shaped_of_RefB (by kernel_rfl) (by kernel_rfl)) (by kernel_rfl) (by kernel_rfl) (by kernel_rfl) (door_met os _)) ?_
  intro W base args ds gs before hval0 hW hcnd hsz0 hL _
  have hP := pows_of hL
  have hval : ∀ (j : Nat) t v, Tryz.f9.params[j]? = some t → args[j]? = some v → Value.okWide Tryz.prog W .any base t v := hval0
  have hW' := hW
  obtain ⟨p, q, hA0, hV, rfl, hfz, hnd⟩ := hW
  have hA : DataW.TrodAll enc Tryz.prog W 0 (fun _ => true) true Tryz.f9.params.toList args.toList ds p := hA0
  rw [Tryz.params9] at hA hval
  obtain ⟨v0, vs0, d0, ds0, p0, q0, hargs, rfl, rfl, h0, r0⟩ := trodAll_cons hA
  obtain ⟨v1, vs1, d1, ds1, p1, q1, rfl, rfl, rfl, h1, r1⟩ := trodAll_cons r0
  obtain ⟨rfl, rfl, rfl⟩ := trodAll_nil r1
  obtain rfl : args = #[v0, v1] := by cases args; simp_all
  obtain ⟨rfl, rfl⟩ := trodVars_none hV
  have lt0 : ∀ x ∈ p0, x.block < W.heap.size := by obtain ⟨m, hm⟩ := h0; exact DataW.trod_lt m _ _ _ hm
  have k0 := h0
  obtain ⟨x0, rfl, _, _, w0⟩ := open_int (t := 3) (k := .i64) (by kernel_rfl) (hval 0 _ v0 rfl rfl) k0
  have b0 : (-9223372036854775808 : Int) ≤ x0 ∧ x0 < 9223372036854775808 := by
    have h := int_of w0
    have e1 : IntKind.i64.min = -9223372036854775808 := rfl
    have e2 : IntKind.i64.max = 9223372036854775807 := rfl
    omega
  have lt1 : ∀ x ∈ p1, x.block < W.heap.size := by obtain ⟨m, hm⟩ := h1; exact DataW.trod_lt m _ _ _ hm
  have k1 := h1
  obtain ⟨x1, hw1, hx1⟩ := open_acts20 (hval 1 _ v1 rfl rfl) k1
  clear hA0 hval0 hsz0
  refine (ret_calls (by kernel_rfl) (tablePlays_ret x0 x1 v1 b0 hx1 W hw1 hP)).mono fun e W' ⟨v, he, hv, ho⟩ => ?_
  subst he hv
  have bel := ho.below
  exact ⟨_, rfl, _, _, _, [], _, [], hW', trodAll_mk1 (shut_bool (by kernel_rfl) _), (trodAll_cons_mk (Below.trod laidOut (by kernel_rfl) (of_decide_eq_true (by kernel_rfl)) h0 bel lt0) (trodAll_cons_mk (Below.trod laidOut (by kernel_rfl) (of_decide_eq_true (by kernel_rfl)) h1 bel lt1) trodAll_mk0)), rfl, bel.frame _, fun h => by cases h⟩
end Go.Proofs.YtilajmcellffiaaGreatDoorX
namespace Go.Proofs.YtilajmcellffiaaGreatDoor
open Go Go.RowKit Go.ChangeShapes Go.WideShapes Go.ChangeAt
theorem tablePlays_nm : Tryz.prog.funcNamed "turnstone/turnstonelaw20.TablePlays" = some 9 := by kernel_rfl
theorem tablePlays_ip : (Rows.tablePlaysRow.inPlace == Tryz.prog.inPlace 9) = true := by kernel_rfl
theorem tablePlays_un : (Rows.tablePlaysRow.unfollowed == Tryz.prog.unfollowed 9) = true := by kernel_rfl
theorem tablePlays_rc : (Rows.tablePlaysRow.recurses == Tryz.prog.recurses 9) = true := by kernel_rfl
theorem tablePlays_nd : (Rows.tablePlaysRow.named == Tryz.prog.varsNamed 9) = true := by kernel_rfl
theorem tablePlays_holds : Rows.TablePlaysSaid :=
  OpenClaim.holds_of_wide 9 Tryz.f9 rfl rfl rfl rfl rfl rfl rfl ⟨rfl, rfl, rfl, rfl, rfl⟩ rfl rfl rfl rfl rfl tablePlays_nm Tryz.func9
    (by unfold joinedFacts; exact (and_mk (and_mk (and_mk (and_mk (and_mk (and_mk (and_mk (and_mk (and_mk (and_mk (and_mk (and_mk (and_mk (and_mk (and_mk (and_mk (and_mk (and_mk (and_mk (and_mk (and_mk (and_mk (and_mk (and_mk (and_mk (and_mk (and_mk (and_mk (and_mk (and_mk (and_mk (by kernel_rfl) pf_laid) pf_maps) (by kernel_rfl)) (by kernel_rfl)) (by kernel_rfl)) (by kernel_rfl)) (by kernel_rfl)) (by kernel_rfl)) tablePlays_ip) tablePlays_un) tablePlays_rc) tablePlays_nd) (by kernel_rfl)) (by kernel_rfl)) (by kernel_rfl)) (by kernel_rfl)) (by kernel_rfl)) (by kernel_rfl)) (by kernel_rfl)) (by kernel_rfl)) (by kernel_rfl)) pf_keys) (by kernel_rfl)) pf_heard) pf_enter) pf_lift) pf_make) (by kernel_rfl)) (by kernel_rfl)) (by kernel_rfl)) (by kernel_rfl)))
    (of_decide_eq_true (by kernel_rfl)) (by unfold Func.isWrapper; first | (rw [if_pos (by decide +kernel)]; kernel_rfl) | (rw [if_neg (by decide +kernel)]; exact ⟨rfl, rfl⟩))
    (fun os started H enc _ => YtilajmcellffiaaGreatDoorX.tablePlays_lifted os started H enc)
theorem tablePlays_w : Rows.tablePlaysRow.wfByText (OpenSpec.ofChange Rows.tablePlaysSpec) = true := by kernel_rfl
theorem tablePlays_mn : Tryz.prog.mainIs = some (Rows.tablePlaysCard.stood.harness.1, Rows.tablePlaysCard.stood.harness.2.toList) := by kernel_rfl
theorem tablePlays_lk : Rows.tablePlaysCard.stood.looks = Tryz.prog.looks [] := by kernel_rfl
theorem tablePlays_gs : false = Rows.tablePlaysRow.goesBy Tryz.prog := by kernel_rfl
theorem tablePlays_card : Rows.TablePlaysCardSaid :=
  Claim7.holds_tied_plain_at .later [] [.data, .data, .data] true Rows.tablePlaysCard.stood.harness Rows.tablePlaysCard.stood.looks
    tablePlays_holds (fun _ h => by cases h) tablePlays_w (fun _ h => by cases h) tablePlays_row_tie rfl ⟨rfl, rfl⟩ tablePlays_mn rfl
    (fun f fn hf hfn => by
      obtain rfl : f = 9 := Option.some.inj (tablePlays_nm.symm.trans hf) |>.symm
      obtain rfl : fn = Tryz.f9 := (Option.some.inj (Tryz.func9.symm.trans hfn)).symm
      exact ⟨tablePlays_lk, fun j t ht => by
        rw [Tryz.params9] at ht
        have hm : t ∈ [3, 85] := by simpa using Array.mem_of_getElem? ht
        have hall : ([3, 85].all fun u => !Tryz.prog.wantsStandIn u) = true := by kernel_rfl
        exact (show Tryz.prog.wantsStandIn t = false by simpa using List.all_eq_true.1 hall t hm)⟩)
    tablePlays_gs
end Go.Proofs.YtilajmcellffiaaGreatDoor
