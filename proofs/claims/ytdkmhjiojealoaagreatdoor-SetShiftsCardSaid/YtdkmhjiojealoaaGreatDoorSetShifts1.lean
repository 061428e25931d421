/- Proved: law16.SetShifts returns true for every clock, every shift and every slice of acts, and its arguments read as before; no conditions -/
import Derived.Test.YtdkmhjiojealoaaGreatDoorA10
import Derived.Test.YtdkmhjiojealoaaGreatDoorCards
import Derived.SevenTiedAt
set_option linter.unusedVariables false
set_option linter.unusedSimpArgs false
set_option maxRecDepth 100000
namespace Go.Proofs.YtdkmhjiojealoaaGreatDoorX
open Go Go.RowKit
section
variable {ops : Array Oper} {QE : Exit → Env → World → Prop} {n : Nat} {rest : List Oper} {env : Env} {w : World} {d : Option Nat} {ty : Nat} {pos : String} {aft : Array Edge} {g : Option (Nat × Bool)}
theorem rem8 {t t' : Nat} {x y : Operand} {a b : Int} (h0 : 0 ≤ a) (h2 : 0 < b) (hw : wantedE ops env g = true := by exact rfl) (hx : ev env x = .int .u8 a := by exact rfl) (hy : ev env y = .int .u8 b := by exact rfl)
    (k : XS Tryz.prog ops QE n rest (updO env d (.int .u8 (a % b))) w) : XS Tryz.prog ops QE n (⟨d, .binOp .rem t x y t', ty, pos, aft, g⟩ :: rest) env w :=
  xs_val hw (by rw [r_rem (by omega) hx hy, Int.tmod_eq_emod_of_nonneg h0]) k
theorem eqSN {t t' e : Nat} {x y : Operand} {a : Option Addr} {m c : Nat} (ht : Tryz.prog.underlying t = some (.slice e)) (hw : wantedE ops env g = true := by exact rfl) (hx : ev env x = .slice a m c := by exact rfl) (hy : ev env y = .slice none 0 0 := by exact rfl)
    (k : XS Tryz.prog ops QE n rest (updO env d (.bool a.isNone)) w) : XS Tryz.prog ops QE n (⟨d, .binOp .eql t x y t', ty, pos, aft, g⟩ :: rest) env w :=
  xs_val hw (r_binX (by rw [hx, hy]; simp [eqGuard]) (by
    rw [hx, hy]
    have h : ∀ d : Nat, (Op.equalIn (d + 1) t (.slice a m c) (.slice none 0 0)).run Tryz.prog w = .ok a.isNone w := fun d => by cases a <;> simp [Op.equalIn, run_underlying ht]
    simp only [binOp]
    simp [Op.equal, Op.maxDepth, h 9999])) k
end
end Go.Proofs.YtdkmhjiojealoaaGreatDoorX

namespace Go.Proofs.YtdkmhjiojealoaaGreatDoorX
open Go Go.RowKit
attribute [local irreducible] XS XC XA thenE blockE retE loopE loopS cutB cutN doneE SE
set_option maxHeartbeats 16000000 in
theorem setShifts_ret (c t : Int) (xs : List Ac16) (sl : Value) (hc0 : U64 c) (ht0 : U64 t) (hx : ∀ a ∈ xs, a.In) (w0 : World) (hL : LsX w0 11 sl (xs.map Ac16.cells)) (ht : Pows w0) : Ret Tryz.prog 4 #[.int .u64 c, .int .u64 t, sl] w0 fun v w' => v = .bool true ∧ Only [] w0 w' := by
  obtain ⟨ad, cap, rfl, hD⟩ := hL
  rw [List.length_map]
  have hs := St.nil w0
  refine ret_of_xc Tryz.func4 (by kernel_rfl) rfl Tryz.ntmps4 rfl rfl rfl ?_
  repeat' (first|refine vs (k:=?_)|refine qRg ?_|refine Nx.h ?_|fail)
  (with_reducible apply xs_call); exact rfl; exact rfl; exact awake16_ret _ (tab_only ht (hs.only0 rfl))
  rintro v w' ⟨rfl, ho⟩; replace hs := hs.call0 ho; repeat' (first|refine vs (k:=?_)|refine qRg ?_|refine Nx.h ?_|refine qCf ?_|(refine xc_if rfl (fun hc=>?_) (fun hc=>?_))|fail)
  · first | refine rt (hq := ?_) | refine rt' (hq := ?_)
    exact ⟨rfl, hs.only0 rfl⟩
  have hm : xs.length ≤ 40 := by omega
  (with_reducible apply xs_call); exact rfl; exact rfl; exact anew_ret c hc0 _
  rintro v w1 ⟨⟨sb, F1, rfl, hS1, hF1⟩, ho1⟩
  have hoA := (hs.only0 rfl).trans ho1
  have hz := (hs.only0 rfl).size
  have hz1 := ho1.size
  clear hs
  have hs := St.nil w1
  iterate 3 refine vs (k := ?_)
  rw [wrap_lat]
  (with_reducible apply xs_call); exact rfl; exact rfl; exact anew_ret (lat c t) (lat_in _ _) _
  rintro v w2 ⟨⟨ub, G1, rfl, hU1, hG1⟩, ho2⟩
  have hlt1 := hS1.lt
  have hT0 : TwoS w0 sb ub ⟨[], c⟩ (shA t ⟨[], c⟩) F1 G1 w2 := ⟨hS1.only ho2, hU1, fun k hk hm => by have := hG1 k hm; have := hlt1 k hk; omega, fun k hk => by have := hF1 k hk; omega, fun k hk => by have := hG1 k hk; omega, hoA.trans ho2⟩
  clear hs
  have hs := St.nil w2
  repeat' (first|refine vs (k:=?_)|refine qRg ?_|refine Nx.h ?_|fail)
  refine xc_cutB (fun (_ : Unit) => []) (fun _ w => Only [] w0 w) ?_ ?_
  · refine xc_loopS (fun (x : Nat × List Nat × List Nat) => [(7, .int .u64 t), (8, .pointer (some ⟨sb, 0, none⟩)), (9, .pointer (some ⟨ub, 0, none⟩)), (31, .slice ad xs.length cap), (32, .int .i64 (xs.length : Nat)), (33, .int .i64 (x.1 : Nat))])
      (fun x w => x.1 ≤ xs.length ∧ TwoS w0 sb ub (actsS ⟨[], c⟩ (xs.take x.1)) (shA t (actsS ⟨[], c⟩ (xs.take x.1))) x.2.1 x.2.2 w) (fun x => xs.length - x.1) (0, F1, G1) (by (repeat (first | exact agree_nil | (apply agree_cons; exact rfl)))) ⟨Nat.zero_le _, hT0.keep (hs.only0 rfl)⟩ fun x env wl ⟨hi, hT⟩ => ?_
    obtain ⟨i, F, G⟩ := x
    simp only at hi hT
    clear hs
    have hs := St.nil wl
    repeat' (first|refine vs (k:=?_)|refine qRg ?_|refine Nx.h ?_|(refine xc_if rfl (fun hc=>?_) (fun hc=>?_))|fail)
    · have hlt : i < xs.length := by omega
      obtain ⟨b, off, cs, E, fz, rfl, hb, hcs⟩ := hD (fun h => by have := congrArg List.length h; rw [List.length_map, List.length_nil] at this; omega)
      have hpk := hcs i (Ac16.cells xs[i]) (by rw [List.getElem?_map, List.getElem?_eq_getElem hlt]; rfl)
      have ei := nx64 (m := xs.length) hlt (by omega)
      obtain ⟨d0, d1⟩ := hx xs[i] (List.getElem_mem hlt)
      have eA : actsS ⟨[], c⟩ (xs.take (i + 1)) = actS (actsS ⟨[], c⟩ (xs.take i)) xs[i] := by rw [take_next hlt, actsS_snoc]
      generalize xs[i] = q at *
      generalize actsS ⟨[], c⟩ (xs.take i) = A at *
      refine ix (h0 := (by omega)) (h1 := (by omega)) (k := ?_)
      refine lhK (vs := q.cells) (hT.o.block hb (by simp)) hpk (k := ?_)
      refine al hs (k := ?_); clear hs; intro b11 w3 hz3 hs
      refine stA hs (k := ?_); clear hs; intro w4 hs
      repeat' (first|refine Nx.h ?_|fail)
      refine xc_region ?_ ?_; exact rfl
      refine vs (k := ?_)
      refine vs (k := ?_)
      refine al hs (k := ?_); clear hs; intro b12 w5 hz5 hs
      refine stA hs (k := ?_); clear hs; intro w6 hs
      have g11 := hs.new (b11, true) (by simp) rfl
      have g12 := hs.new (b12, true) (by simp) rfl
      simp only at g11 g12
      have n12 : b12 ≠ b11 := by
        have nd := hs.nd
        simp only [List.map_cons, List.map_nil, List.nodup_cons, List.mem_cons, List.not_mem_nil, or_false] at nd
        exact nd.1
      repeat' (first|refine vs (k:=?_)|refine qRg ?_|refine Nx.h ?_|fail)
      (with_reducible apply xs_call); exact rfl; exact rfl; exact ishift_ret q.r.1.i t _
      rintro v w' ⟨rfl, ho⟩; replace hs := hs.call0 ho; repeat' (first|refine vs (k:=?_)|(refine stA hs (k:=?_);intro w hs)|refine qRg ?_|refine Nx.h ?_|fail)
      refine rem8 (b := 6) d0 (by decide) (k := ?_)
      have h11 := hs.get (b := b11) (by repeat (first | exact At.head | (with_reducible apply At.tail)))
      have h12 := hs.get (b := b12) (by repeat (first | exact At.head | (with_reducible apply At.tail)))
      have ho7 := hs.only0 rfl
      have hT7 := hT.keep ho7
      have ltF := hT.a.lt
      have ltG := hT.b.lt
      have f11 : b11 ∉ F := fun h => by have := ltF b11 h; omega
      have f12 : b12 ∉ F := fun h => by have := ltF b12 h; omega
      have e11 : b11 ∉ G := fun h => by have := ltG b11 h; omega
      have e12 : b12 ∉ G := fun h => by have := ltG b12 h; omega
      refine XS.nil ?_
      refine then_of ?_
      refine xc_cutN (fun (x : List Nat × List Nat × Int) => [(7, .int .u64 t), (8, .pointer (some ⟨sb, 0, none⟩)), (9, .pointer (some ⟨ub, 0, none⟩)), (13, .int .i64 x.2.2), (14, .int .i64 x.2.2), (31, .slice (some ⟨b, off, none⟩) xs.length cap), (32, .int .i64 (xs.length : Nat)), (33, .int .i64 (i : Nat))])
        (fun x w => TwoS w0 sb ub (actS A q) (shA t (actS A q)) x.1 x.2.1 w) ?_ ?_
      · repeat' (first|refine Nx.h ?_|fail)
        refine xc_region ?_ ?_; exact rfl
        refine vs (k := ?_)
        by_cases k2 : q.d % 6 = 2
        · have eq : actS A q = extA A (idR q.r) := if_pos k2
          rw [eq, ← extA_sh]
          rw [show (q.d % 6 == 2) = true by simpa using k2]
          repeat' (first|refine vs (k:=?_)|refine qRg ?_|refine Nx.h ?_|refine qCt ?_|fail)
          have ho8 := hs.onlyF [] (by simp [h11, h12]) (by simp [D0])
          (with_reducible apply xs_call); exact rfl; exact rfl; exact aexit_ret sb A F (idR q.r) _ hT7.a q.r.2.1.2.1
          rintro v w8 ⟨rfl, hl⟩
          obtain ⟨F', hT8⟩ := hT7.left hl
          obtain ⟨_, _, _, ho9⟩ := hl
          have j12 := ho9.block h12 f12
          clear hs
          have hs := (St.nil w8).track j12 (by simp)
          repeat' (first|refine vs (k:=?_)|refine qRg ?_|refine Nx.h ?_|fail)
          (with_reducible apply xs_call); exact rfl; exact rfl; exact aexit_ret ub (shA t A) G (idR q.r) _ (hT8.keep (hs.onlyF [] (by simp [j12]) (by simp [D0]))).b q.r.2.1.2.1
          rw [findS_sh]
          rintro v w9 ⟨rfl, hl2⟩
          obtain ⟨G', hT9⟩ := (hT8.keep (hs.onlyF [] (by simp [j12]) (by simp [D0]))).right hl2
          clear hs
          have hs := St.nil w9
          repeat' (first|refine vs (k:=?_)|refine Nx.h ?_|fail)
          exact cutN_normal (F', G', errN (findR A.l (idR q.r)).isSome) (by (repeat (first | exact agree_nil | (apply agree_cons; exact rfl)))) (hT9.keep (hs.only0 rfl))
        rw [show (q.d % 6 == 2) = false by simpa using k2]
        refine vs (k := ?_)
        repeat' (first|refine Nx.h ?_|refine qCf ?_|fail)
        refine xc_region ?_ ?_; exact rfl
        refine vs (k := ?_)
        by_cases k3 : q.d % 6 = 3
        · have eq : actS A q = putA A q.r := by unfold actS; rw [if_neg k2, if_pos k3]
          rw [eq, ← putA_sh]
          rw [show (q.d % 6 == 3) = true by simpa using k3]
          repeat' (first|refine vs (k:=?_)|refine Nx.h ?_|refine qCt ?_|fail)
          refine dr [] hs (k := ?_); intro hX w hs
          refine tk 0 hX (k := ?_)
          refine tk 1 hX (k := ?_)
          refine tk 2 hX (k := ?_)
          refine tk 4 hX (k := ?_)
          refine tk 5 hX (k := ?_)
          refine dt 3 hX (k := ?_)
          have ho8 := hs.onlyF [] (by simp [h11, h12]) (by simp [D0])
          (with_reducible apply xs_call); exact rfl; exact rfl; exact aput_ret sb A F q.r _ (hT.keep ho8).a
          rintro v w8 ⟨rfl, hl⟩
          obtain ⟨F', hT8⟩ := (hT.keep ho8).left hl
          obtain ⟨_, _, _, ho9⟩ := hl
          have j11 := ho9.block (hs.get (b := b11) (by repeat (first | exact At.head | (with_reducible apply At.tail)))) f11
          have j12 := ho9.block (hs.get (b := b12) (by repeat (first | exact At.head | (with_reducible apply At.tail)))) f12
          clear hs
          have hs := ((St.nil w8).track j11 (by simp)).track j12 (by simpa using n12)
          refine XS.nil ?_
          refine dn (k := ?_)
          refine dt 6 hX (k := ?_)
          have ho10 := hs.onlyF [] (by simp [j11, j12]) (by simp [D0])
          (with_reducible apply xs_call); exact rfl; exact rfl; exact aput_ret ub (shA t A) G (shR t q.r) _ (hT8.keep ho10).b
          rw [putE_sh]
          rintro v w9 ⟨rfl, hl2⟩
          obtain ⟨G', hT9⟩ := (hT8.keep ho10).right hl2
          obtain ⟨_, _, _, ho11⟩ := hl2
          have i11 := ho11.block (ho10.block j11 (by simp)) e11
          have i12 := ho11.block (ho10.block j12 (by simp)) e12
          clear hs
          have hs := ((St.nil w9).track i11 (by simp)).track i12 (by simpa using n12)
          refine XS.nil ?_
          refine dn (k := ?_)
          refine tk 7 hX (k := ?_)
          refine tk 8 hX (k := ?_)
          refine en (k := ?_)
          repeat' (first|refine Nx.h ?_|fail)
          exact cutN_normal (F', G', putE A q.r) (by (repeat (first | exact agree_nil | (apply agree_cons; exact rfl)))) (hT9.keep (hs.onlyF [] (by simp [i11, i12]) (by simp [D0])))
        rw [show (q.d % 6 == 3) = false by simpa using k3]
        refine vs (k := ?_)
        repeat' (first|refine Nx.h ?_|refine qCf ?_|fail)
        refine xc_region ?_ ?_; exact rfl
        refine vs (k := ?_)
        by_cases k4 : q.d % 6 = 4
        · have eq : actS A q = rouA A (idR q.r) q.r.1.asleep := by unfold actS; rw [if_neg k2, if_neg k3, if_pos k4]
          rw [eq, ← rouA_sh]
          rw [show (q.d % 6 == 4) = true by simpa using k4]
          repeat' (first|refine vs (k:=?_)|refine Nx.h ?_|refine qCt ?_|fail)
          refine dr [] hs (k := ?_); intro hX w hs
          refine tk 0 hX (k := ?_)
          refine tk 1 hX (k := ?_)
          refine tk 2 hX (k := ?_)
          refine tk 3 hX (k := ?_)
          refine tk 4 hX (k := ?_)
          refine tk 5 hX (k := ?_)
          refine tk 7 hX (k := ?_)
          refine tk 8 hX (k := ?_)
          refine tk 9 hX (k := ?_)
          refine tk 10 hX (k := ?_)
          refine tk 11 hX (k := ?_)
          refine tk 12 hX (k := ?_)
          refine dt 6 hX (k := ?_)
          have ho8 := hs.onlyF [] (by simp [h11, h12]) (by simp [D0])
          (with_reducible apply xs_call); exact rfl; exact rfl; exact arouse_ret sb A F (idR q.r) q.r.1.asleep _ (hT.keep ho8).a q.r.2.1.2.1
          rintro v w8 ⟨rfl, hl⟩
          obtain ⟨F', hT8⟩ := (hT.keep ho8).left hl
          obtain ⟨_, _, _, ho9⟩ := hl
          have j11 := ho9.block (hs.get (b := b11) (by repeat (first | exact At.head | (with_reducible apply At.tail)))) f11
          have j12 := ho9.block (hs.get (b := b12) (by repeat (first | exact At.head | (with_reducible apply At.tail)))) f12
          clear hs
          have hs := ((St.nil w8).track j11 (by simp)).track j12 (by simpa using n12)
          refine XS.nil ?_
          refine dn (k := ?_)
          refine dt 13 hX (k := ?_)
          have ho10 := hs.onlyF [] (by simp [j11, j12]) (by simp [D0])
          (with_reducible apply xs_call); exact rfl; exact rfl; exact arouse_ret ub (shA t A) G (idR q.r) q.r.1.asleep _ (hT8.keep ho10).b q.r.2.1.2.1
          rw [findS_sh]
          rintro v w9 ⟨rfl, hl2⟩
          obtain ⟨G', hT9⟩ := (hT8.keep ho10).right hl2
          obtain ⟨_, _, _, ho11⟩ := hl2
          have i11 := ho11.block (ho10.block j11 (by simp)) e11
          have i12 := ho11.block (ho10.block j12 (by simp)) e12
          clear hs
          have hs := ((St.nil w9).track i11 (by simp)).track i12 (by simpa using n12)
          refine XS.nil ?_
          refine dn (k := ?_)
          refine tk 14 hX (k := ?_)
          refine tk 15 hX (k := ?_)
          refine en (k := ?_)
          repeat' (first|refine Nx.h ?_|fail)
          exact cutN_normal (F', G', errN (findR A.l (idR q.r)).isSome) (by (repeat (first | exact agree_nil | (apply agree_cons; exact rfl)))) (hT9.keep (hs.onlyF [] (by simp [i11, i12]) (by simp [D0])))
        rw [show (q.d % 6 == 4) = false by simpa using k4]
        have eq : actS A q = entA A q.r := by unfold actS; rw [if_neg k2, if_neg k3, if_neg k4]
        rw [eq, ← entA_sh]
        repeat' (first|refine vs (k:=?_)|refine Nx.h ?_|refine qCf ?_|fail)
        refine dr [] hs (k := ?_); intro hX w hs
        refine tk 0 hX (k := ?_)
        refine tk 1 hX (k := ?_)
        refine tk 2 hX (k := ?_)
        refine tk 4 hX (k := ?_)
        refine tk 5 hX (k := ?_)
        refine dt 3 hX (k := ?_)
        have ho8 := hs.onlyF [] (by simp [h11, h12]) (by simp [D0])
        (with_reducible apply xs_call); exact rfl; exact rfl; exact aenter_ret sb A F q.r _ (hT.keep ho8).a
        rintro v w8 ⟨rfl, hl⟩
        obtain ⟨F', hT8⟩ := (hT.keep ho8).left hl
        obtain ⟨_, _, _, ho9⟩ := hl
        have j11 := ho9.block (hs.get (b := b11) (by repeat (first | exact At.head | (with_reducible apply At.tail)))) f11
        have j12 := ho9.block (hs.get (b := b12) (by repeat (first | exact At.head | (with_reducible apply At.tail)))) f12
        clear hs
        have hs := ((St.nil w8).track j11 (by simp)).track j12 (by simpa using n12)
        refine XS.nil ?_
        refine dn (k := ?_)
        refine dt 6 hX (k := ?_)
        have ho10 := hs.onlyF [] (by simp [j11, j12]) (by simp [D0])
        (with_reducible apply xs_call); exact rfl; exact rfl; exact aenter_ret ub (shA t A) G (shR t q.r) _ (hT8.keep ho10).b
        rw [entE_sh]
        rintro v w9 ⟨rfl, hl2⟩
        obtain ⟨G', hT9⟩ := (hT8.keep ho10).right hl2
        obtain ⟨_, _, _, ho11⟩ := hl2
        have i11 := ho11.block (ho10.block j11 (by simp)) e11
        have i12 := ho11.block (ho10.block j12 (by simp)) e12
        clear hs
        have hs := ((St.nil w9).track i11 (by simp)).track i12 (by simpa using n12)
        refine XS.nil ?_
        refine dn (k := ?_)
        refine tk 7 hX (k := ?_)
        refine tk 8 hX (k := ?_)
        refine en (k := ?_)
        repeat' (first|refine Nx.h ?_|fail)
        exact cutN_normal (F', G', entE A q.r) (by (repeat (first | exact agree_nil | (apply agree_cons; exact rfl)))) (hT9.keep (hs.onlyF [] (by simp [i11, i12]) (by simp [D0])))
      · generalize hB : actS A q = B at *
        clear hT hT7 hs
        rintro ⟨F', G', e⟩ env w10 hT
        simp only at hT
        obtain ⟨qb, mb, p1, hQ1⟩ := hT.a.opn
        obtain ⟨qc, mc, p2, hQ2⟩ := hT.b.opn
        have nub : ub ≠ sb := fun k => hT.d sb hT.a.mem2 (k ▸ hT.b.mem2)
        have hs := ((St.nil w10).track p1 (by simp)).track p2 (by simpa using nub)
        repeat' (first|refine vs (k:=?_)|refine qRg ?_|refine Nx.h ?_|fail)
        have hoa := hs.onlyF [] (by simp [p1, p2]) (by simp [D0])
        (with_reducible apply xs_call); exact rfl; exact rfl; exact asoonest_ret qb B _ (hQ1.only hoa)
        rintro v w' ⟨rfl, ho⟩; replace hs := hs.call0 ho; repeat' (first|refine vs (k:=?_)|(refine stA hs (k:=?_);intro w hs)|(refine al hs (k:=?_);intro b w hz hs)|refine qRg ?_|refine Nx.h ?_|fail)
        have hob := hs.onlyF [] (by simp [p1, p2]) (by simp [D0])
        (with_reducible apply xs_call); exact rfl; exact rfl; exact asoonest_ret qc (shA t B) _ (hQ2.only hob)
        rw [(soonI_sh t B).1]
        cases hsm : (soonA B).isSome
        · rintro v11 w11 ⟨rfl, ho11⟩; replace hs := hs.call0 ho11
          repeat' (first|refine vs (k:=?_)|(refine stA hs (k:=?_);intro w hs)|(refine al hs (k:=?_);intro b w hz hs)|refine Nx.h ?_|fail)
          refine dr [] hs (k := ?_); intro hX w hs
          refine tk 0 hX (k := ?_)
          refine tk 1 hX (k := ?_)
          refine tk 2 hX (k := ?_)
          refine xa_set 116 (v := .bool false) (congrArg Value.bool (show (e != e) = false by simp)) ?_
          refine tk 3 hX (k := ?_)
          refine tk 4 hX (k := ?_)
          refine tk 5 hX (k := ?_)
          refine tk 6 hX (k := ?_)
          refine tk 7 hX (k := ?_)
          refine tk 8 hX (k := ?_)
          refine tk 9 hX (k := ?_)
          refine tk 10 hX (k := ?_)
          refine pt 11 hX (k := ?_)
          refine pt 12 hX (k := ?_)
          refine pt 13 hX (k := ?_)
          refine pt 14 hX (k := ?_)
          refine pt 15 hX (k := ?_)
          refine tk 16 hX (k := ?_)
          refine tk 17 hX (k := ?_)
          refine tk 18 hX (k := ?_)
          refine tk 19 hX (k := ?_)
          refine tk 21 hX (k := ?_)
          refine dt 20 hX (k := ?_)
          have hoc := hs.onlyF [] (by simp [p1, p2]) (by simp [D0])
          (with_reducible apply xs_call); exact rfl; exact rfl; exact arunnable_ret sb B F' _ (hT.keep hoc).a
          rintro v13 w13 ⟨rfl, hod⟩; replace hs := hs.call0 hod
          refine XS.nil ?_
          refine dn (k := ?_)
          refine dt 22 hX (k := ?_)
          have hoe := hs.onlyF [] (by simp [p1, p2]) (by simp [D0])
          (with_reducible apply xs_call); exact rfl; exact rfl; exact arunnable_ret ub (shA t B) G' _ (hT.keep hoe).b
          rw [run_sh]
          rintro v14 w14 ⟨rfl, hof⟩; replace hs := hs.call0 hof
          refine XS.nil ?_
          refine dn (k := ?_)
          refine tk 23 hX (k := ?_)
          refine xa_set 137 (v := .bool false) (congrArg Value.bool (show (((runN B.l : Nat) : Int) != ((runN B.l : Nat) : Int)) = false by simp)) ?_
          refine tk 24 hX (k := ?_)
          refine tk 25 hX (k := ?_)
          refine tk 26 hX (k := ?_)
          refine tk 27 hX (k := ?_)
          refine tk 28 hX (k := ?_)
          refine tk 29 hX (k := ?_)
          refine tk 31 hX (k := ?_)
          refine tk 32 hX (k := ?_)
          refine tk 33 hX (k := ?_)
          refine tk 34 hX (k := ?_)
          refine tk 36 hX (k := ?_)
          refine dt 30 hX (k := ?_)
          have hog := hs.onlyF [] (by simp [p1, p2]) (by simp [D0])
          (with_reducible apply xs_call); exact rfl; exact rfl; exact anow_ret qc (shA t B) _ (hQ2.only hog)
          rw [now_sh]
          rintro v15 w15 ⟨rfl, hoh⟩; replace hs := hs.call0 hoh
          refine XS.nil ?_
          refine dn (k := ?_)
          refine dt 35 hX (k := ?_)
          have hoi := hs.onlyF [] (by simp [p1, p2]) (by simp [D0])
          (with_reducible apply xs_call); exact rfl; exact rfl; exact anow_ret qb B _ (hQ1.only hoi)
          rintro v16 w16 ⟨rfl, hoj⟩; replace hs := hs.call0 hoj
          refine XS.nil ?_
          refine dn (k := ?_)
          refine tk 37 hX (k := ?_)
          refine tk 38 hX (k := ?_)
          refine xa_set 152 (v := .bool false) (congrArg Value.bool (show (lat (nowA B) t != IntKind.u64.wrap (nowA B + t)) = false by rw [wrap_lat]; simp)) ?_
          refine tk 39 hX (k := ?_)
          refine en (k := ?_)
          repeat' (first|refine vs (k:=?_)|refine qRg ?_|refine Nx.h ?_|refine qCf ?_|fail)
          refine loopS_next (i + 1, F', G') (by show xs.length - (i + 1) < xs.length - i; omega) (by (repeat (first | exact agree_nil | (apply agree_cons; first | exact rfl | exact congrArg (Value.int .i64) ei)))) ⟨by show i + 1 ≤ _; omega, ?_⟩
          show TwoS w0 sb ub (actsS ⟨[], c⟩ (xs.take (i + 1))) (shA t (actsS ⟨[], c⟩ (xs.take (i + 1)))) F' G' _
          rw [eA]
          exact hT.keep (hs.onlyF [] (by simp [p1, p2]) (by simp [D0]))
        · rw [(soonI_sh t B).2 hsm]
          rintro v11 w11 ⟨rfl, ho11⟩; replace hs := hs.call0 ho11
          repeat' (first|refine vs (k:=?_)|(refine stA hs (k:=?_);intro w hs)|(refine al hs (k:=?_);intro b w hz hs)|refine Nx.h ?_|fail)
          refine dr [] hs (k := ?_); intro hX w hs
          refine tk 0 hX (k := ?_)
          refine tk 1 hX (k := ?_)
          refine tk 2 hX (k := ?_)
          refine xa_set 116 (v := .bool false) (congrArg Value.bool (show (e != e) = false by simp)) ?_
          refine tk 3 hX (k := ?_)
          refine tk 4 hX (k := ?_)
          refine tk 5 hX (k := ?_)
          refine tk 6 hX (k := ?_)
          refine tk 7 hX (k := ?_)
          refine tk 8 hX (k := ?_)
          refine tk 9 hX (k := ?_)
          refine tk 10 hX (k := ?_)
          refine tk 11 hX (k := ?_)
          refine tk 12 hX (k := ?_)
          refine tk 14 hX (k := ?_)
          refine dt 13 hX (k := ?_)
          (with_reducible apply xs_call); exact rfl; exact rfl; exact ishift_ret (soonI B) t _
          rintro v12 w12 ⟨rfl, ho12⟩; replace hs := hs.call0 ho12
          refine XS.nil ?_
          refine dn (k := ?_)
          refine tk 15 hX (k := ?_)
          refine xa_set 129 (v := .bool false) (congrArg Value.bool (neIt (shI t (soonI B)))) ?_
          refine tk 16 hX (k := ?_)
          refine tk 17 hX (k := ?_)
          refine tk 18 hX (k := ?_)
          refine tk 19 hX (k := ?_)
          refine tk 21 hX (k := ?_)
          refine dt 20 hX (k := ?_)
          have hoc := hs.onlyF [] (by simp [p1, p2]) (by simp [D0])
          (with_reducible apply xs_call); exact rfl; exact rfl; exact arunnable_ret sb B F' _ (hT.keep hoc).a
          rintro v13 w13 ⟨rfl, hod⟩; replace hs := hs.call0 hod
          refine XS.nil ?_
          refine dn (k := ?_)
          refine dt 22 hX (k := ?_)
          have hoe := hs.onlyF [] (by simp [p1, p2]) (by simp [D0])
          (with_reducible apply xs_call); exact rfl; exact rfl; exact arunnable_ret ub (shA t B) G' _ (hT.keep hoe).b
          rw [run_sh]
          rintro v14 w14 ⟨rfl, hof⟩; replace hs := hs.call0 hof
          refine XS.nil ?_
          refine dn (k := ?_)
          refine tk 23 hX (k := ?_)
          refine xa_set 137 (v := .bool false) (congrArg Value.bool (show (((runN B.l : Nat) : Int) != ((runN B.l : Nat) : Int)) = false by simp)) ?_
          refine tk 24 hX (k := ?_)
          refine tk 25 hX (k := ?_)
          refine tk 26 hX (k := ?_)
          refine tk 27 hX (k := ?_)
          refine tk 28 hX (k := ?_)
          refine tk 29 hX (k := ?_)
          refine tk 31 hX (k := ?_)
          refine tk 32 hX (k := ?_)
          refine tk 33 hX (k := ?_)
          refine tk 34 hX (k := ?_)
          refine tk 36 hX (k := ?_)
          refine dt 30 hX (k := ?_)
          have hog := hs.onlyF [] (by simp [p1, p2]) (by simp [D0])
          (with_reducible apply xs_call); exact rfl; exact rfl; exact anow_ret qc (shA t B) _ (hQ2.only hog)
          rw [now_sh]
          rintro v15 w15 ⟨rfl, hoh⟩; replace hs := hs.call0 hoh
          refine XS.nil ?_
          refine dn (k := ?_)
          refine dt 35 hX (k := ?_)
          have hoi := hs.onlyF [] (by simp [p1, p2]) (by simp [D0])
          (with_reducible apply xs_call); exact rfl; exact rfl; exact anow_ret qb B _ (hQ1.only hoi)
          rintro v16 w16 ⟨rfl, hoj⟩; replace hs := hs.call0 hoj
          refine XS.nil ?_
          refine dn (k := ?_)
          refine tk 37 hX (k := ?_)
          refine tk 38 hX (k := ?_)
          refine xa_set 152 (v := .bool false) (congrArg Value.bool (show (lat (nowA B) t != IntKind.u64.wrap (nowA B + t)) = false by rw [wrap_lat]; simp)) ?_
          refine tk 39 hX (k := ?_)
          refine en (k := ?_)
          repeat' (first|refine vs (k:=?_)|refine qRg ?_|refine Nx.h ?_|refine qCf ?_|fail)
          refine loopS_next (i + 1, F', G') (by show xs.length - (i + 1) < xs.length - i; omega) (by (repeat (first | exact agree_nil | (apply agree_cons; first | exact rfl | exact congrArg (Value.int .i64) ei)))) ⟨by show i + 1 ≤ _; omega, ?_⟩
          show TwoS w0 sb ub (actsS ⟨[], c⟩ (xs.take (i + 1))) (shA t (actsS ⟨[], c⟩ (xs.take (i + 1)))) F' G' _
          rw [eA]
          exact hT.keep (hs.onlyF [] (by simp [p1, p2]) (by simp [D0]))
    · exact cutB_exit () (by (repeat (first | exact agree_nil | (apply agree_cons; exact rfl)))) hT.o
  · rintro _ env w ho
    clear hs
    have hs := St.nil w
    repeat' (first|refine vs (k:=?_)|refine qRg ?_|refine Nx.h ?_|fail)
    first | refine rt (hq := ?_) | refine rt' (hq := ?_)
    exact ⟨rfl, ho.trans (hs.only0 rfl)⟩
end Go.Proofs.YtdkmhjiojealoaaGreatDoorX

namespace Go.Proofs.YtdkmhjiojealoaaGreatDoorX
open Go Go.RowKit Go.ChangeShapes Go.WideShapes Go.ChangeAt
set_option maxRecDepth 100000 in
theorem setShifts_lifted (os : Os) (started : os.Started) (H : Type) (enc : TypeId × Value → H) :
    ReturnsInHanded {} Tryz.checked os 4 .any (fun w args => (YtdkmhjiojealoaaGreatDoor.Rows.setShiftsSpec.pre enc Tryz.prog Tryz.f4 [] false w args ∧ laidMetH Tryz.prog [("math/bits.deBruijn32tab", YtdkmhjiojealoaaGreatDoor.Rows.laid_math_bits_deBruijn32tab), ("math/bits.deBruijn64tab", YtdkmhjiojealoaaGreatDoor.Rows.laid_math_bits_deBruijn64tab), ("internal/strconv.uint64pow10", YtdkmhjiojealoaaGreatDoor.Rows.laid_internal_strconv_uint64pow10)] w) ∧ sizedMet enc Tryz.prog Tryz.f4 (OpenSpec.ofChange YtdkmhjiojealoaaGreatDoor.Rows.setShiftsSpec) false w args) (YtdkmhjiojealoaaGreatDoor.Rows.setShiftsSpec.post enc Tryz.prog Tryz.f4 false true false false) := by
  refine returnsInHanded_of_change_and (C := Tryz.checked) (X := fun w _ => laidMetH Tryz.prog [("math/bits.deBruijn32tab", YtdkmhjiojealoaaGreatDoor.Rows.laid_math_bits_deBruijn32tab), ("math/bits.deBruijn64tab", YtdkmhjiojealoaaGreatDoor.Rows.laid_math_bits_deBruijn64tab), ("internal/strconv.uint64pow10", YtdkmhjiojealoaaGreatDoor.Rows.laid_internal_strconv_uint64pow10)] w) (fun _ _ _ hh h => h.of_heap hh) own started (by kernel_rfl) Tryz.func4
    (ChangeSpec.witness_shaped (enc := enc) (C := Tryz.checked) (os := os) (X := fun w _ => laidMetH Tryz.prog [("math/bits.deBruijn32tab", YtdkmhjiojealoaaGreatDoor.Rows.laid_math_bits_deBruijn32tab), ("math/bits.deBruijn64tab", YtdkmhjiojealoaaGreatDoor.Rows.laid_math_bits_deBruijn64tab), ("internal/strconv.uint64pow10", YtdkmhjiojealoaaGreatDoor.Rows.laid_internal_strconv_uint64pow10)] w) false (World.doorLaid Tryz.prog 24 os) #[.int .u64 0, .int .u64 0, .slice none 0 0] 8 rfl (World.shaped_of_RefB (by kernel_rfl) (by kernel_rfl)) (by kernel_rfl) (by kernel_rfl) (by kernel_rfl) (door_met os _)) ?_
  intro W base args ds gs before hval0 hW hcnd hsz0 hL _
  have hP := pows_of hL
  have hval : ∀ (j : Nat) t v, Tryz.f4.params[j]? = some t → args[j]? = some v → Value.okWide Tryz.prog W .any base t v := hval0
  have hW' := hW
  obtain ⟨p, q, hA0, hV, rfl, hfz, hnd⟩ := hW
  have hA : DataW.TrodAll enc Tryz.prog W 0 (fun _ => true) true Tryz.f4.params.toList args.toList ds p := hA0
  rw [Tryz.params4] at hA hval
  obtain ⟨v0, vs0, d0, ds0, p0, q0, hargs, rfl, rfl, h0, r0⟩ := trodAll_cons hA
  obtain ⟨v1, vs1, d1, ds1, p1, q1, rfl, rfl, rfl, h1, r1⟩ := trodAll_cons r0
  obtain ⟨v2, vs2, d2, ds2, p2, q2, rfl, rfl, rfl, h2, r2⟩ := trodAll_cons r1
  obtain ⟨rfl, rfl, rfl⟩ := trodAll_nil r2
  obtain rfl : args = #[v0, v1, v2] := by cases args; simp_all
  obtain ⟨rfl, rfl⟩ := trodVars_none hV
  have lt0 : ∀ x ∈ p0, x.block < W.heap.size := by obtain ⟨m, hm⟩ := h0; exact DataW.trod_lt m _ _ _ hm
  have k0 := h0
  obtain ⟨x0, rfl, _, _, w0⟩ := open_int (t := 22) (k := .u64) (by kernel_rfl) (hval 0 _ v0 rfl rfl) k0
  have b0 : (0 : Int) ≤ x0 ∧ x0 < 18446744073709551616 := by
    have h := int_of w0
    have e1 : IntKind.u64.min = 0 := rfl
    have e2 : IntKind.u64.max = 18446744073709551615 := rfl
    omega
  have lt1 : ∀ x ∈ p1, x.block < W.heap.size := by obtain ⟨m, hm⟩ := h1; exact DataW.trod_lt m _ _ _ hm
  have k1 := h1
  obtain ⟨x1, rfl, _, _, w1⟩ := open_int (t := 22) (k := .u64) (by kernel_rfl) (hval 1 _ v1 rfl rfl) k1
  have b1 : (0 : Int) ≤ x1 ∧ x1 < 18446744073709551616 := by
    have h := int_of w1
    have e1 : IntKind.u64.min = 0 := rfl
    have e2 : IntKind.u64.max = 18446744073709551615 := rfl
    omega
  have lt2 : ∀ x ∈ p2, x.block < W.heap.size := by obtain ⟨m, hm⟩ := h2; exact DataW.trod_lt m _ _ _ hm
  have k2 := h2
  obtain ⟨x2, hw2, hx2⟩ := open_acts16 (hval 2 _ v2 rfl rfl) k2
  clear hA0 hval0 hsz0
  refine (ret_calls (by kernel_rfl) (setShifts_ret x0 x1 x2 v2 b0 b1 hx2 W hw2 hP)).mono fun e W' ⟨v, he, hv, ho⟩ => ?_
  subst he hv
  have bel := ho.below
  exact ⟨_, rfl, _, _, _, [], _, [], hW', trodAll_mk1 (shut_bool (by kernel_rfl) _), (trodAll_cons_mk (Below.trod laidOut (by kernel_rfl) (of_decide_eq_true (by kernel_rfl)) h0 bel lt0) (trodAll_cons_mk (Below.trod laidOut (by kernel_rfl) (of_decide_eq_true (by kernel_rfl)) h1 bel lt1) (trodAll_cons_mk (Below.trod laidOut (by kernel_rfl) (of_decide_eq_true (by kernel_rfl)) h2 bel lt2) trodAll_mk0))), rfl, bel.frame _, fun h => by cases h⟩
end Go.Proofs.YtdkmhjiojealoaaGreatDoorX
namespace Go.Proofs.YtdkmhjiojealoaaGreatDoor
open Go Go.RowKit Go.ChangeShapes Go.WideShapes Go.ChangeAt
theorem setShifts_nm : Tryz.prog.funcNamed "turnstone/turnstonelaw16.SetShifts" = some 4 := by kernel_rfl
theorem setShifts_ip : (Rows.setShiftsRow.inPlace == Tryz.prog.inPlace 4) = true := by kernel_rfl
theorem setShifts_un : (Rows.setShiftsRow.unfollowed == Tryz.prog.unfollowed 4) = true := by kernel_rfl
theorem setShifts_rc : (Rows.setShiftsRow.recurses == Tryz.prog.recurses 4) = true := by kernel_rfl
theorem setShifts_nd : (Rows.setShiftsRow.named == Tryz.prog.varsNamed 4) = true := by kernel_rfl
theorem setShifts_holds : Rows.SetShiftsSaid :=
  OpenClaim.holds_of_wide 4 Tryz.f4 rfl rfl rfl rfl rfl rfl rfl ⟨rfl, rfl, rfl, rfl, rfl⟩ rfl rfl rfl rfl rfl setShifts_nm Tryz.func4
    (by unfold joinedFacts; exact (and_mk (and_mk (and_mk (and_mk (and_mk (and_mk (and_mk (and_mk (and_mk (and_mk (and_mk (and_mk (and_mk (and_mk (and_mk (and_mk (and_mk (and_mk (and_mk (and_mk (and_mk (and_mk (and_mk (and_mk (and_mk (and_mk (and_mk (and_mk (and_mk (and_mk (and_mk (by kernel_rfl) pf_laid) pf_maps) (by kernel_rfl)) (by kernel_rfl)) (by kernel_rfl)) (by kernel_rfl)) (by kernel_rfl)) (by kernel_rfl)) setShifts_ip) setShifts_un) setShifts_rc) setShifts_nd) (by kernel_rfl)) (by kernel_rfl)) (by kernel_rfl)) (by kernel_rfl)) (by kernel_rfl)) (by kernel_rfl)) (by kernel_rfl)) (by kernel_rfl)) (by kernel_rfl)) pf_keys) (by kernel_rfl)) pf_heard) pf_enter) pf_lift) pf_make) (by kernel_rfl)) (by kernel_rfl)) (by kernel_rfl)) (by kernel_rfl)))
    (of_decide_eq_true (by kernel_rfl)) (by unfold Func.isWrapper; first | (rw [if_pos (by decide +kernel)]; kernel_rfl) | (rw [if_neg (by decide +kernel)]; exact ⟨rfl, rfl⟩))
    (fun os started H enc _ => YtdkmhjiojealoaaGreatDoorX.setShifts_lifted os started H enc)
theorem setShifts_w : Rows.setShiftsRow.wfByText (OpenSpec.ofChange Rows.setShiftsSpec) = true := by kernel_rfl
theorem setShifts_mn : Tryz.prog.mainIs = some (Rows.setShiftsCard.stood.harness.1, Rows.setShiftsCard.stood.harness.2.toList) := by kernel_rfl
theorem setShifts_lk : Rows.setShiftsCard.stood.looks = Tryz.prog.looks [] := by kernel_rfl
theorem setShifts_gs : false = Rows.setShiftsRow.goesBy Tryz.prog := by kernel_rfl
theorem setShifts_card : Rows.SetShiftsCardSaid :=
  Claim7.holds_tied_plain_at .later [] [.data, .data, .data] true Rows.setShiftsCard.stood.harness Rows.setShiftsCard.stood.looks
    setShifts_holds (fun _ h => by cases h) setShifts_w (fun _ h => by cases h) setShifts_row_tie rfl ⟨rfl, rfl⟩ setShifts_mn rfl
    (fun f fn hf hfn => by
      obtain rfl : f = 4 := Option.some.inj (setShifts_nm.symm.trans hf) |>.symm
      obtain rfl : fn = Tryz.f4 := (Option.some.inj (Tryz.func4.symm.trans hfn)).symm
      exact ⟨setShifts_lk, fun j t ht => by
        rw [Tryz.params4] at ht
        have hm : t ∈ [22, 22, 23] := by simpa using Array.mem_of_getElem? ht
        have hall : ([22, 22, 23].all fun u => !Tryz.prog.wantsStandIn u) = true := by kernel_rfl
        exact (show Tryz.prog.wantsStandIn t = false by simpa using List.all_eq_true.1 hall t hm)⟩)
    setShifts_gs
end Go.Proofs.YtdkmhjiojealoaaGreatDoor
