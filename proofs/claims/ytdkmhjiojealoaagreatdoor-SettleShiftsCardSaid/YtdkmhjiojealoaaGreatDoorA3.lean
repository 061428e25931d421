/- A part of the proof: what its functions compute. -/
import Derived.Test.YtdkmhjiojealoaaGreatDoorA2
import Derived.Deep.SlicePairs
import Derived.Deep.Slices
set_option linter.unusedVariables false
set_option linter.unusedSimpArgs false
set_option maxRecDepth 100000
namespace Go.Proofs.YtdkmhjiojealoaaGreatDoorX
open Go Go.RowKit
attribute [local irreducible] XS XC XA thenE blockE retE loopE loopS cutB cutN doneE SE
theorem wrap_u8 (n : Int) : IntKind.u8.wrap n = n % 256 := by simp [IntKind.wrap, IntKind.signed, IntKind.bits]
theorem len64_end {x X c : Int} (k : Nat) (p : Int) (hk : k ≤ 56) (hp : (2 : Int) ^ k = p) (hc : c = k) (hX : X = x / p) (h : k = 0 ∨ 0 < X) (h0 : 0 ≤ X) (h1 : X < 256) :
    ∃ L, packed [Value.int .i64 (IntKind.i64.wrap (c + IntKind.i64.wrap ((len8 (IntKind.u8.wrap X).toNat : Nat) : Int)))] = .int .i64 L ∧ BitLen x L 64 := by
  have e1 : IntKind.u8.wrap X = X := by rw [wrap_u8]; omega
  have hb := bl_8 h0 h1
  have hl : len8 X.toNat ≤ 8 := (len8_ok X.toNat (by omega)).2.2
  refine ⟨len8 X.toNat + k, ?_, ?_⟩
  · rw [e1]
    simp only [wrap_i64, packed]
    congr 1
    omega
  · rcases h with h | h
    · subst h
      have : X = x := by rw [hX, ← hp]; simp
      subst this
      simpa using hb.mono (show 8 ≤ 64 by decide)
    · subst hX
      exact (bl_shift k hp hb h).mono (by omega)
theorem len64_ret (x : Int) (hx0 : 0 ≤ x) (hx1 : x < 18446744073709551616) (w0 : World) : Ret Tryz.prog 120 #[.int .u64 x] w0 fun v w' => (∃ L, v = .int .i64 L ∧ BitLen x L 64) ∧ Only [] w0 w' := by
  have hs := St.nil w0
  refine ret_of_xc Tryz.func120 (by kernel_rfl) rfl Tryz.ntmps120 rfl rfl rfl ?_
  repeat' (first|refine vs (k:=?_)|refine qRg ?_|refine Nx.h ?_|(refine xc_if rfl (fun hc=>?_) (fun hc=>?_))|fail)
  all_goals (have hs := hs; (with_reducible apply xs_val); exact rfl; (with_reducible apply r_indexT tabOk 256 len8); exact rfl; exact rfl; exact rfl; kernel_rfl; (rw [wrap_u8]; omega); (rw [wrap_u8]; omega))
  all_goals (repeat' (first|refine vs (k:=?_)|refine Nx.h ?_|fail))
  all_goals (first | refine rt (hq := ?_) | refine rt' (hq := ?_))
  all_goals refine ⟨?_, hs.only0 rfl⟩
  all_goals clear hs
  all_goals try simp only [decide_eq_true_eq, decide_eq_false_iff_not] at *
  all_goals first | exact len64_end 56 72057594037927936 (by decide) (by decide) (by rfl) (by omega) (by omega) (by omega) (by omega) | exact len64_end 48 281474976710656 (by decide) (by decide) (by rfl) (by omega) (by omega) (by omega) (by omega) | exact len64_end 40 1099511627776 (by decide) (by decide) (by rfl) (by omega) (by omega) (by omega) (by omega) | exact len64_end 32 4294967296 (by decide) (by decide) (by rfl) (by omega) (by omega) (by omega) (by omega) | exact len64_end 24 16777216 (by decide) (by decide) (by rfl) (by omega) (by omega) (by omega) (by omega) | exact len64_end 16 65536 (by decide) (by decide) (by rfl) (by omega) (by omega) (by omega) (by omega) | exact len64_end 8 256 (by decide) (by decide) (by rfl) (by omega) (by omega) (by omega) (by omega) | exact len64_end 0 1 (by decide) (by decide) (by rfl) (by omega) (by omega) (by omega) (by omega)
theorem lz64_ret (x : Int) (hx0 : 0 < x) (hx1 : x < 18446744073709551616) (w0 : World) : Ret Tryz.prog 105 #[.int .u64 x] w0 fun v w' => (∃ s : Nat, v = .int .i64 (s : Nat) ∧ s ≤ 63 ∧ x * 2 ^ s < 18446744073709551616 ∧ 9223372036854775808 ≤ x * 2 ^ s) ∧ Only [] w0 w' := by
  have hs := St.nil w0
  refine ret_of_xc Tryz.func105 (by kernel_rfl) rfl Tryz.ntmps105 rfl rfl rfl ?_
  repeat' (first|refine vs (k:=?_)|refine qRg ?_|refine Nx.h ?_|fail)
  (with_reducible apply xs_call); exact rfl; exact rfl; exact len64_ret x (by omega) hx1 _
  rintro v w' ⟨⟨L, rfl, hL⟩, ho⟩; replace hs := hs.call0 ho
  repeat' (first|refine vs (k:=?_)|refine Nx.h ?_|fail)
  first | refine rt (hq := ?_) | refine rt' (hq := ?_)
  refine ⟨?_, hs.only0 rfl⟩
  obtain ⟨l, rfl, h1, h2, h3⟩ := hL
  have h3 := h3 hx0
  have hl : 1 ≤ l := by
    rcases Nat.eq_zero_or_pos l with h | h
    · subst h; simp at h2; omega
    · exact h
  have hp : (2 : Int) ^ l * 2 ^ (64 - l) = 18446744073709551616 := by
    rw [← Int.pow_add, show l + (64 - l) = 64 by omega]; rfl
  refine ⟨64 - l, ?_, by omega, ?_, ?_⟩
  · simp only [packed, wrap_i64]
    congr 1
    omega
  · have := Int.mul_lt_mul_of_pos_right h2 (show (0 : Int) < 2 ^ (64 - l) from Int.pow_pos (by decide))
    omega
  · have : (2 : Int) ^ l * 2 ^ (64 - l) ≤ 2 * x * 2 ^ (64 - l) := Int.mul_le_mul_of_nonneg_right h3 (Int.le_of_lt (Int.pow_pos (by decide)))
    rw [hp, Int.mul_assoc] at this
    omega
/-! ### Div64 -/
theorem kd_cond {q r v d : Int} (e1 : IntKind.u64.wrap (4294967296 * r) = 4294967296 * r) (e2 : IntKind.u64.wrap (4294967296 * r + v) = 4294967296 * r + v) (e4 : q < 4294967296 → IntKind.u64.wrap (q * d) = q * d)
    (h1 : decide (4294967296 ≤ q) = false) (h2 : IntKind.u64.wrap (IntKind.u64.wrap (4294967296 * r) + v) < IntKind.u64.wrap (q * d)) : 4294967296 ≤ q ∨ 4294967296 * r + v < q * d := by
  have := of_decide_eq_false h1
  rw [e1, e2, e4 (by omega)] at h2
  exact .inr h2
theorem kd_ncond {q r v d : Int} (e1 : IntKind.u64.wrap (4294967296 * r) = 4294967296 * r) (e2 : IntKind.u64.wrap (4294967296 * r + v) = 4294967296 * r + v) (e4 : q < 4294967296 → IntKind.u64.wrap (q * d) = q * d)
    (h1 : decide (4294967296 ≤ q) = false) (h2 : ¬ IntKind.u64.wrap (IntKind.u64.wrap (4294967296 * r) + v) < IntKind.u64.wrap (q * d)) : q * d ≤ 4294967296 * r + v := by
  have := of_decide_eq_false h1
  rw [e1, e2, e4 (by omega)] at h2
  omega
set_option maxHeartbeats 1000000 in
theorem div64_ret (hi lo y : Int) (h0 : 0 ≤ hi) (h1 : hi < y) (h2 : y < 18446744073709551616) (h3 : 0 ≤ lo) (h4 : lo < 18446744073709551616) (w0 : World) :
    Ret Tryz.prog 77 #[.int .u64 hi, .int .u64 lo, .int .u64 y] w0 fun v w' => v = .tuple #[.int .u64 ((hi * 18446744073709551616 + lo) / y), .int .u64 ((hi * 18446744073709551616 + lo) % y)] ∧ Only [] w0 w' := by
  have hs := St.nil w0
  refine ret_of_xc Tryz.func77 (by kernel_rfl) rfl Tryz.ntmps77 rfl rfl rfl ?_
  repeat' (first|refine vs (k:=?_)|refine qRg ?_|refine Nx.h ?_|(refine xc_if rfl (fun hc=>?_) (fun hc=>?_))|fail)
  · omega
  · omega
  · refine dr [] hs (k := ?_); intro hX w hs
    refine tk 0 hX (k := ?_)
    refine tk 1 hX (k := ?_)
    refine tk 2 hX (k := ?_)
    refine tk 3 hX (k := ?_)
    refine tk 4 hX (k := ?_)
    refine tk 5 hX (k := ?_)
    refine tk 6 hX (k := ?_)
    refine tk 7 hX (k := ?_)
    refine en (k := ?_)
    repeat' (first|refine Nx.h ?_|fail)
    first | refine rt (hq := ?_) | refine rt' (hq := ?_)
    refine ⟨?_, hs.only0 rfl⟩
    have : hi = 0 := by omega
    subst this
    refine pairU_ok ?_ ?_ <;> simp
  (with_reducible apply xs_call); exact rfl; exact rfl; exact lz64_ret y (by omega) h2 _
  rintro v w' ⟨⟨sh, rfl, hs1, hs2, hs3⟩, ho⟩; replace hs := hs.call0 ho
  repeat' (first|refine vs (k:=?_)|refine qRg ?_|refine Nx.h ?_|fail)
  rw [wrap_small (show (0 : Int) ≤ (sh : Nat) by omega) (by omega)]
  have hP : (0 : Int) < 2 ^ sh := Int.pow_pos (by decide)
  have hQ : (0 : Int) < 2 ^ (64 - sh) := Int.pow_pos (by decide)
  have hPQ : (2 : Int) ^ sh * 2 ^ (64 - sh) = 18446744073709551616 := by rw [← Int.pow_add, show sh + (64 - sh) = 64 by omega]; rfl
  obtain ⟨g1, g2, g3, g4⟩ := kd_open hP hQ hPQ h0 h1 h3 h4
  have hhi : 0 ≤ hi * 2 ^ sh := Int.mul_nonneg h0 (by omega)
  have hA : hi * 2 ^ sh < 18446744073709551616 := by omega
  (with_reducible apply xs_valE); exact rfl; (with_reducible apply r_shlS sh); exact rfl; exact rfl; exact rfl; exact (by show sh ≤ 64; omega); exact congrArg (Value.int .u64) (wrap_small (by omega) (by omega))
  generalize hY : y * 2 ^ sh = Y at *
  repeat' (first|refine vs (k:=?_)|refine qRg ?_|refine Nx.h ?_|fail)
  (with_reducible apply xs_valE); exact rfl; (with_reducible apply r_shlS sh); exact rfl; exact rfl; exact rfl; exact (by show sh ≤ 64; omega); exact congrArg (Value.int .u64) (wrap_small hhi hA)
  repeat' (first|refine vs (k:=?_)|fail)
  (with_reducible apply xs_val); exact rfl; (with_reducible apply r_shrS (64 - sh)); exact rfl; exact rfl; exact (by rw [wrap_small (by omega) (by omega)]; omega); exact (by show 64 - sh ≤ 64; omega)
  (with_reducible apply xs_val); exact rfl; (with_reducible apply r_orS sh hi); exact rfl; exact rfl; exact rfl; exact h0; exact g1; exact g2; omega
  repeat' (first|refine vs (k:=?_)|refine qRg ?_|refine Nx.h ?_|fail)
  (with_reducible apply xs_valE); exact rfl; (with_reducible apply r_shlS sh); exact rfl; exact rfl; exact rfl; exact (by show sh ≤ 64; omega); exact congrArg (Value.int .u64) (wrap_u64 _)
  have hL : 0 ≤ lo * 2 ^ sh % 18446744073709551616 ∧ lo * 2 ^ sh % 18446744073709551616 < 18446744073709551616 := by omega
  have hu0 : 0 ≤ hi * 2 ^ sh + lo / 2 ^ (64 - sh) := by omega
  generalize hi * 2 ^ sh + lo / 2 ^ (64 - sh) = u at *
  generalize lo * 2 ^ sh % 18446744073709551616 = L at *
  repeat' (first|refine vs (k:=?_)|refine qRg ?_|refine Nx.h ?_|fail)
  have hK : KdOk u (L / 4294967296) (Y / 4294967296) (Y % 4294967296) Y := ⟨by omega, by omega, by omega, by omega, by omega, hu0, g3, by omega, by omega⟩
  have kk := kd_init hK
  have e1 : IntKind.u64.wrap (u / (Y / 4294967296) * (Y / 4294967296)) = u / (Y / 4294967296) * (Y / 4294967296) := by
    have := Int.mul_nonneg kk.q0 (show 0 ≤ Y / 4294967296 by omega)
    have := kk.sum; have := kk.r0
    exact wrap_small (by omega) (by omega)
  have e2 : IntKind.u64.wrap (u - u / (Y / 4294967296) * (Y / 4294967296)) = u - u / (Y / 4294967296) * (Y / 4294967296) := wrap_small kk.r0 (by have := kk.r1; omega)
  rw [e1, e2]
  clear e1 e2 kk
  generalize hc' : Y / 4294967296 = c at *
  generalize hd' : Y % 4294967296 = d at *
  generalize hv1 : L / 4294967296 = v1 at *
  generalize hv0 : L % 4294967296 = v0 at *
  refine xc_cutB (fun (z : Int) => [(2, .int .u64 Y), (8, .int .u64 ((sh : Nat) : Int)), (9, .int .u64 c), (10, .int .u64 d), (11, .int .u64 u), (13, .int .u64 v1), (14, .int .u64 v0), (15, .int .u64 z)]) (fun z w => KdFin u v1 Y z ∧ St w0 D0 [] w) ?_ ?_
  · refine xc_loopS (fun (s : Int × Int) => [(2, .int .u64 Y), (8, .int .u64 ((sh : Nat) : Int)), (9, .int .u64 c), (10, .int .u64 d), (11, .int .u64 u), (13, .int .u64 v1), (14, .int .u64 v0), (15, .int .u64 s.1), (16, .int .u64 s.2)]) (fun s w => Kd u v1 c d Y s.1 s.2 ∧ St w0 D0 [] w) (fun s => s.1.toNat) (u / c, u - u / c * c) (by (repeat (first | exact agree_nil | (apply agree_cons; exact rfl)))) ⟨kd_init hK, hs⟩ fun s env w hI => ?_
    obtain ⟨hk, hs⟩ := hI
    generalize hsq : s.1 = q at *
    generalize hsr : s.2 = r at *
    have hk' := hk
    obtain ⟨k1, k2, k3, k4, k5, k6⟩ := hk'
    have e1 : IntKind.u64.wrap (4294967296 * r) = 4294967296 * r := wrap_small (by omega) (by omega)
    have e2 : IntKind.u64.wrap (4294967296 * r + v1) = 4294967296 * r + v1 := wrap_small (by omega) (by omega)
    have e3 : IntKind.u64.wrap (r + c) = r + c := wrap_small (by omega) (by omega)
    have e4 : q < 4294967296 → IntKind.u64.wrap (q * d) = q * d := fun hq => by
      have := mul_bound (a := q) (b := d) (m := 4294967295) k2 (by omega) hK.d0 (by have := hK.d1; omega)
      exact wrap_small (by omega) (by omega)
    repeat' (first|refine vs (k:=?_)|refine ps (k:=?_)|refine qRg ?_|refine Nx.h ?_|refine qBo ?_|refine qCt ?_|((with_reducible apply xs_guard);exact rfl;exact rfl;intro c hc;(fail_if_success have:true=c:=hc);(fail_if_success have:false=c:=hc);cases c)|(refine xc_if rfl (fun hc=>?_) (fun hc=>?_))|fail)
    all_goals first
      | exact cutB_exit q (by (repeat (first | exact agree_nil | (apply agree_cons; exact rfl)))) ⟨kd_stop hK hk (kd_ncond e1 e2 e4 (by assumption) (by assumption)), hs⟩
      | skip
    all_goals have hst : 4294967296 ≤ q ∨ 4294967296 * r + v1 < q * d := by first | exact .inl (of_decide_eq_true (by assumption)) | exact kd_cond e1 e2 e4 (by assumption) (by assumption)
    all_goals obtain ⟨h1, h2, h3⟩ := kd_step hK hk hst
    all_goals have e5 : IntKind.u64.wrap (q - 1) = q - 1 := wrap_small (by omega) (by omega)
    all_goals simp only [e3] at hc
    all_goals first
      | exact cutB_exit (q - 1) (by (repeat (first | exact agree_nil | (apply agree_cons; first | exact rfl | exact congrArg (Value.int .u64) e5 | exact congrArg (Value.int .u64) e3)))) ⟨h3 (by omega), hs⟩
      | exact loopS_next (q - 1, r + c) (by simp only [hsq]; omega) (by (repeat (first | exact agree_nil | (apply agree_cons; first | exact rfl | exact congrArg (Value.int .u64) e5 | exact congrArg (Value.int .u64) e3)))) ⟨h2 (by omega), hs⟩
  rintro q env w ⟨hfq, hs⟩
  obtain ⟨f1, f2, f3, f4, f5⟩ := kd_fin hK hfq
  repeat' (first|refine vs (k:=?_)|refine qRg ?_|refine Nx.h ?_|fail)
  have hq0 := hfq.1
  have E1 : IntKind.u64.wrap (IntKind.u64.wrap (IntKind.u64.wrap (u * 4294967296) + v1) - IntKind.u64.wrap (q * Y)) = u * 4294967296 + v1 - q * Y := by
    clear f1 f3
    simp only [wrap_u64]
    generalize q * Y = z at *
    omega
  rw [E1]
  clear E1
  generalize hu2 : u * 4294967296 + v1 - q * Y = u2 at *
  have hd := hK.d0; have hdd := hK.d1; have hcc := hK.c0; have hcd := hK.c1; have hyy := hK.y_eq
  have hK2 : KdOk u2 v0 c d Y := ⟨hyy, hcc, hcd, hd, hdd, f4, f5, by omega, by omega⟩
  have kk := kd_init hK2
  have e1 : IntKind.u64.wrap (u2 / c * c) = u2 / c * c := by
    have := Int.mul_nonneg kk.q0 (show 0 ≤ c by omega)
    have := kk.sum; have := kk.r0
    exact wrap_small (by omega) (by omega)
  have e2 : IntKind.u64.wrap (u2 - u2 / c * c) = u2 - u2 / c * c := wrap_small kk.r0 (by have := kk.r1; omega)
  rw [e1, e2]
  clear e1 e2 kk
  refine xc_cutB (fun (z : Int) => [(2, .int .u64 Y), (8, .int .u64 ((sh : Nat) : Int)), (9, .int .u64 c), (10, .int .u64 d), (14, .int .u64 v0), (15, .int .u64 q), (17, .int .u64 u2), (18, .int .u64 z)]) (fun z w => KdFin u2 v0 Y z ∧ St w0 D0 [] w) ?_ ?_
  · refine xc_loopS (fun (s : Int × Int) => [(2, .int .u64 Y), (8, .int .u64 ((sh : Nat) : Int)), (9, .int .u64 c), (10, .int .u64 d), (14, .int .u64 v0), (15, .int .u64 q), (17, .int .u64 u2), (18, .int .u64 s.1), (16, .int .u64 s.2)]) (fun s w => Kd u2 v0 c d Y s.1 s.2 ∧ St w0 D0 [] w) (fun s => s.1.toNat) (u2 / c, u2 - u2 / c * c) (by (repeat (first | exact agree_nil | (apply agree_cons; exact rfl)))) ⟨kd_init hK2, hs⟩ fun s env w hI => ?_
    obtain ⟨hk, hs⟩ := hI
    generalize hsq : s.1 = q at *
    generalize hsr : s.2 = r at *
    have hk' := hk
    obtain ⟨k1, k2, k3, k4, k5, k6⟩ := hk'
    have e1 : IntKind.u64.wrap (4294967296 * r) = 4294967296 * r := wrap_small (by omega) (by omega)
    have e2 : IntKind.u64.wrap (4294967296 * r + v0) = 4294967296 * r + v0 := wrap_small (by omega) (by omega)
    have e3 : IntKind.u64.wrap (r + c) = r + c := wrap_small (by omega) (by omega)
    have e4 : q < 4294967296 → IntKind.u64.wrap (q * d) = q * d := fun hq => by
      have := mul_bound (a := q) (b := d) (m := 4294967295) k2 (by omega) hK2.d0 (by have := hK2.d1; omega)
      exact wrap_small (by omega) (by omega)
    repeat' (first|refine vs (k:=?_)|refine ps (k:=?_)|refine qRg ?_|refine Nx.h ?_|refine qBo ?_|refine qCt ?_|((with_reducible apply xs_guard);exact rfl;exact rfl;intro c hc;(fail_if_success have:true=c:=hc);(fail_if_success have:false=c:=hc);cases c)|(refine xc_if rfl (fun hc=>?_) (fun hc=>?_))|fail)
    all_goals first
      | exact cutB_exit q (by (repeat (first | exact agree_nil | (apply agree_cons; exact rfl)))) ⟨kd_stop hK2 hk (kd_ncond e1 e2 e4 (by assumption) (by assumption)), hs⟩
      | skip
    all_goals have hst : 4294967296 ≤ q ∨ 4294967296 * r + v0 < q * d := by first | exact .inl (of_decide_eq_true (by assumption)) | exact kd_cond e1 e2 e4 (by assumption) (by assumption)
    all_goals obtain ⟨h1, h2, h3⟩ := kd_step hK2 hk hst
    all_goals have e5 : IntKind.u64.wrap (q - 1) = q - 1 := wrap_small (by omega) (by omega)
    all_goals simp only [e3] at hc
    all_goals first
      | exact cutB_exit (q - 1) (by (repeat (first | exact agree_nil | (apply agree_cons; first | exact rfl | exact congrArg (Value.int .u64) e5 | exact congrArg (Value.int .u64) e3)))) ⟨h3 (by omega), hs⟩
      | exact loopS_next (q - 1, r + c) (by simp only [hsq]; omega) (by (repeat (first | exact agree_nil | (apply agree_cons; first | exact rfl | exact congrArg (Value.int .u64) e5 | exact congrArg (Value.int .u64) e3)))) ⟨h2 (by omega), hs⟩
  rintro p env w ⟨hfp, hs⟩
  obtain ⟨i1, i2, i3, i4, i5⟩ := kd_fin hK2 hfp
  repeat' (first|refine vs (k:=?_)|refine qRg ?_|refine Nx.h ?_|fail)
  (with_reducible apply xs_val); exact rfl; (with_reducible apply r_shrS sh); exact rfl; exact rfl; exact rfl; exact (by show sh ≤ 64; omega)
  repeat' (first|refine vs (k:=?_)|refine Nx.h ?_|fail)
  first | refine rt (hq := ?_) | refine rt' (hq := ?_)
  refine ⟨?_, hs.only0 rfl⟩
  clear hs
  have hp0 := hfp.1
  have E1 : IntKind.u64.wrap (IntKind.u64.wrap (IntKind.u64.wrap (u2 * 4294967296) + v0) - IntKind.u64.wrap (p * Y)) = u2 * 4294967296 + v0 - p * Y := by
    clear i1 i3 f1 f3 hu2
    simp only [wrap_u64]
    generalize p * Y = z at *
    omega
  rw [E1]
  have E2 : IntKind.u64.wrap (IntKind.u64.wrap (q * 4294967296) + p) = q * 4294967296 + p := by
    rw [wrap_small (n := q * 4294967296) (by omega) (by omega)]
    exact wrap_small (by omega) (by omega)
  rw [E2]
  obtain ⟨j1, j2⟩ := kd_end (T := hi * 18446744073709551616 + lo) (Q := q * 4294967296 + p) hP (show 0 < y by omega) hY (by
    have : (q * 4294967296 + p) * Y = q * Y * 4294967296 + p * Y := by grind
    rw [g4, this]
    omega) i4 i5
  rw [j2]
  exact pairU_ok j1 rfl
end Go.Proofs.YtdkmhjiojealoaaGreatDoorX

namespace Go.Proofs.YtdkmhjiojealoaaGreatDoorX
open Go Go.RowKit
attribute [local irreducible] XS XC XA thenE blockE retE loopE loopS cutB cutN doneE SE
theorem long_div (h l y : Int) (hy : 0 < y) (hl0 : 0 ≤ l) (hl1 : l < 18446744073709551616) : (h * 18446744073709551616 + l) / y = h / y * 18446744073709551616 + (h % y * 18446744073709551616 + l) / y ∧
    (h * 18446744073709551616 + l) % y = (h % y * 18446744073709551616 + l) % y ∧ 0 ≤ (h % y * 18446744073709551616 + l) / y ∧ (h % y * 18446744073709551616 + l) / y < 18446744073709551616 := by
  have e1 := Int.mul_ediv_add_emod h y
  have e2 := Int.emod_nonneg h (show y ≠ 0 by omega)
  have e3 := Int.emod_lt_of_pos h hy
  have e : h * 18446744073709551616 + l = (h % y * 18446744073709551616 + l) + h / y * 18446744073709551616 * y := by
    generalize h / y = q at *
    generalize h % y = r at *
    subst e1
    grind
  refine ⟨?_, ?_, Int.ediv_nonneg (by omega) (by omega), ?_⟩
  · rw [e, Int.add_mul_ediv_right _ _ (by omega)]; omega
  · rw [e, Int.add_mul_emod_self_right]
  · rw [Int.ediv_lt_iff_lt_mul hy]
    have : (h % y + 1) * 18446744073709551616 ≤ y * 18446744073709551616 := by omega
    rw [Int.mul_comm 18446744073709551616 y]
    omega
def divV (x y : Int) : Value := if y = 0 then .tuple #[wv 0, .int .u64 0, .bool false] else .tuple #[wv (x / y), .int .u64 (x % y), .bool true]
theorem divV_no {x : Int} : packed [Value.agg #[.int .i64 0, .int .u64 0], .int .u64 0, .bool false] = divV x 0 := rfl
theorem divV_ok {x y r : Int} {v : Value} (hy : y ≠ 0) (hv : v = wv (x / y)) (hr : r = x % y) : packed [v, .int .u64 r, .bool true] = divV x y := by
  unfold divV; rw [if_neg hy, hv, hr]; rfl
theorem neg_div {X y q r : Int} (hy : 0 < y) (hq : X / y = q) (hr : X % y = r) : (0 < r → -X / y = -(q + 1) ∧ -X % y = y - r) ∧ (¬ 0 < r → -X / y = -q ∧ -X % y = 0) := by
  have e1 := Int.mul_ediv_add_emod X y
  have e2 := Int.emod_nonneg X (show y ≠ 0 by omega)
  have e3 := Int.emod_lt_of_pos X hy
  rw [hq, hr] at e1
  rw [hr] at e2 e3
  refine ⟨fun h => ?_, fun h => ?_⟩
  · have e : -X = (y - r) + -(q + 1) * y := by subst e1; grind
    constructor
    · rw [e, Int.add_mul_ediv_right _ _ (by omega), Int.ediv_eq_zero_of_lt (by omega) (by omega)]; omega
    · rw [e, Int.add_mul_emod_self_right, Int.emod_eq_of_lt (by omega) (by omega)]
  · have e : -X = 0 + -q * y := by subst e1; grind
    constructor
    · rw [e, Int.add_mul_ediv_right _ _ (by omega)]; simp
    · rw [e, Int.add_mul_emod_self_right]; simp
set_option maxHeartbeats 400000 in
theorem div_ret (x y : Int) (hx : InW x) (hy0 : 0 ≤ y) (hy1 : y < 18446744073709551616) (w0 : World) : Ret Tryz.prog 47 #[wv x, .int .u64 y] w0 fun v w' => v = divV x y ∧ Only [] w0 w' := by
  have hx' := hx
  obtain ⟨hx1, hx2⟩ := hx
  have hs := St.nil w0
  obtain ⟨X, hX⟩ := abs_ex x
  have hX0 := hX
  obtain ⟨hX1, hX2⟩ := hX
  refine ret_of_xc Tryz.func47 (by kernel_rfl) rfl Tryz.ntmps47 rfl rfl rfl ?_
  repeat' (first|refine vs (k:=?_)|(refine stA hs (k:=?_);intro w hs)|(refine al hs (k:=?_);intro b w hz hs)|(refine bx hs (k:=?_);intro b w hz hs)|refine qRg ?_|refine Nx.h ?_|(refine xc_if rfl (fun hc=>?_) (fun hc=>?_))|fail)
  · first | refine rt (hq := ?_) | refine rt' (hq := ?_)
    have : y = 0 := by omega
    subst this
    exact ⟨divV_no, hs.only0 rfl⟩
  (with_reducible apply xs_call); exact rfl; exact rfl; exact size_of hx' hX0 _
  rintro v w' ⟨rfl, ho⟩; replace hs := hs.call0 ho
  repeat' (first|refine vs (k:=?_)|refine Nx.h ?_|fail)
  refine dr [] hs (k := ?_); intro hX w hs
  refine tk 0 hX (k := ?_)
  refine tk 1 hX (k := ?_)
  refine tk 2 hX (k := ?_)
  refine tk 3 hX (k := ?_)
  refine tk 4 hX (k := ?_)
  refine tk 5 hX (k := ?_)
  refine tk 6 hX (k := ?_)
  refine tk 7 hX (k := ?_)
  refine en (k := ?_)
  repeat' (first|refine vs (k:=?_)|refine qRg ?_|refine Nx.h ?_|fail)
  (with_reducible apply xs_call); exact rfl; exact rfl; exact div64_ret _ _ _ (Int.emod_nonneg _ (by omega)) (Int.emod_lt_of_pos _ (by omega)) (by omega) (by omega) (by omega) _
  rintro v w' ⟨rfl, ho⟩; replace hs := hs.call0 ho
  obtain ⟨d1, d2, d3, d4⟩ := long_div (X / 18446744073709551616) (X % 18446744073709551616) y (by omega) (by omega) (by omega)
  rw [show X / 18446744073709551616 * 18446744073709551616 + X % 18446744073709551616 = X by omega] at d1 d2
  have d5 := Int.emod_nonneg X (show y ≠ 0 by omega)
  have d6 := Int.emod_lt_of_pos X (show 0 < y by omega)
  have d7 : 0 ≤ X / 18446744073709551616 / y := Int.ediv_nonneg (by omega) (by omega)
  have d8 : X / y ≤ X := Int.ediv_le_self y hX1
  have d9 : X / y + X % y ≤ X := by
    have e1 := Int.mul_ediv_add_emod X y
    have e2 : 1 * (X / y) ≤ y * (X / y) := Int.mul_le_mul_of_nonneg_right (by omega) (Int.ediv_nonneg hX1 (by omega))
    omega
  rw [d2] at d5 d6 d9
  generalize X / 18446744073709551616 / y = q1 at *
  generalize (X / 18446744073709551616 % y * 18446744073709551616 + X % 18446744073709551616) / y = q0 at *
  generalize (X / 18446744073709551616 % y * 18446744073709551616 + X % 18446744073709551616) % y = r at *
  repeat' (first|refine vs (k:=?_)|(refine stA hs (k:=?_);intro w hs)|refine qRg ?_|refine Nx.h ?_|(refine xc_if rfl (fun hc=>?_) (fun hc=>?_))|fail)
  · first | refine rt (hq := ?_) | refine rt' (hq := ?_)
    refine ⟨?_, hs.only0 rfl⟩
    clear hs
    have : x = X := by omega
    subst this
    refine divV_ok (by omega) (agg_ok ?_ ?_) d2.symm
    · simp only [wrap_i64]; omega
    · omega
  · (with_reducible apply xs_call); exact rfl; exact rfl; exact add64_ret _ _ _ (by omega) (by omega) (by omega) (by omega) _
    rintro v w' ⟨rfl, rfl⟩
    repeat' (first|refine vs (k:=?_)|refine qRg ?_|refine Nx.h ?_|fail)
    (with_reducible apply xs_call); exact rfl; exact rfl; exact flip_of (agg_sgn (s := X / y + 1) (by omega) (by omega) (by simp only [wrap_u64]; omega) (by omega)) (sgn_in (by omega) (by omega)) _
    rintro v w' ⟨rfl, ho⟩; replace hs := hs.call0 ho
    repeat' (first|refine vs (k:=?_)|(refine stA hs (k:=?_);intro w hs)|refine Nx.h ?_|fail)
    first | refine rt (hq := ?_) | refine rt' (hq := ?_)
    refine ⟨?_, hs.only0 rfl⟩
    clear hs
    have : x = -X := by omega
    obtain ⟨n1, n2⟩ := (neg_div (show 0 < y by omega) rfl d2).1 (by omega)
    subst this
    refine divV_ok (by omega) ?_ ?_
    · rw [n1]
      refine congrArg wv ?_
      unfold negW sgn
      repeat' split
      all_goals omega
    · rw [n2, wrap_u64]; omega
  · (with_reducible apply xs_call); exact rfl; exact rfl; exact flip_of (agg_sgn (s := X / y) (by omega) (by omega) (by omega) (by omega)) (sgn_in (by omega) (by omega)) _
    rintro v w' ⟨rfl, ho⟩; replace hs := hs.call0 ho
    repeat' (first|refine vs (k:=?_)|(refine stA hs (k:=?_);intro w hs)|refine Nx.h ?_|fail)
    first | refine rt (hq := ?_) | refine rt' (hq := ?_)
    refine ⟨?_, hs.only0 rfl⟩
    clear hs
    have : x = -X := by omega
    obtain ⟨n1, n2⟩ := (neg_div (show 0 < y by omega) rfl d2).2 (by omega)
    subst this
    refine divV_ok (by omega) ?_ ?_
    · rw [n1]
      refine congrArg wv ?_
      unfold negW sgn
      repeat' split
      all_goals omega
    · rw [n2]; omega
end Go.Proofs.YtdkmhjiojealoaaGreatDoorX

namespace Go.Proofs.YtdkmhjiojealoaaGreatDoorX
open Go Go.RowKit
attribute [local irreducible] XS XC XA thenE blockE retE loopE loopS cutB cutN doneE SE
def In64 (x : Int) : Prop := -9223372036854775808 ≤ x ∧ x < 9223372036854775808
instance (x : Int) : Decidable (In64 x) := by unfold In64; infer_instance
def smallV (x : Int) : Value := if In64 x then .tuple #[.int .i64 x, .bool true] else .tuple #[.int .i64 0, .bool false]
set_option maxHeartbeats 1000000 in
theorem small_ret (x : Int) (hx : InW x) (w0 : World) : Ret Tryz.prog 48 #[wv x] w0 fun v w' => v = smallV x ∧ Only [] w0 w' := by
  have hx' := hx
  obtain ⟨hx1, hx2⟩ := hx
  have hs := St.nil w0
  refine ret_of_xc Tryz.func48 (by kernel_rfl) rfl Tryz.ntmps48 rfl rfl rfl ?_
  repeat' (first|refine vs (k:=?_)|(refine bx hs (k:=?_);intro b w hz hs)|refine qRg ?_|refine Nx.h ?_|fail)
  refine dr [] hs (k := ?_); intro hX w hs
  refine tk 0 hX (k := ?_)
  refine tk 2 hX (k := ?_)
  refine dt 1 hX (k := ?_)
  (with_reducible apply xs_call); exact rfl; exact rfl; exact of_ret _ (by rw [wrap_i64]; omega) (by rw [wrap_i64]; omega) _
  rintro v w' ⟨rfl, ho⟩; replace hs := hs.call0 ho; repeat' (first|refine Nx.h ?_|fail)
  refine dn (k := ?_)
  refine tk 3 hX (k := ?_)
  refine en (k := ?_)
  repeat' (first|refine vs (k:=?_)|refine qRg ?_|refine Nx.h ?_|(refine xc_cond rfl (fun hc=>?_) (fun hc=>?_))|fail)
  · first | refine rt (hq := ?_) | refine rt' (hq := ?_)
    refine ⟨?_, hs.only0 rfl⟩
    clear hs
    have h1 : ¬ In64 x := by
      rintro ⟨h1, h2⟩
      simp only [wrap_i64, cellEq, Bool.not_eq_true', Bool.and_eq_false_iff, beq_eq_false_iff_ne, ne_eq] at hc
      omega
    unfold smallV packed
    rw [if_neg h1]
  · first | refine rt (hq := ?_) | refine rt' (hq := ?_)
    refine ⟨?_, hs.only0 rfl⟩
    clear hs
    have h1 : IntKind.i64.wrap (x % 18446744073709551616) = x ∧ In64 x := by
      simp only [wrap_i64, cellEq, Bool.not_eq_false', Bool.and_eq_true, beq_iff_eq, Bool.not_not, not_true, Bool.not_eq_true', Bool.not_eq_true] at hc ⊢
      unfold In64
      constructor <;> omega
    unfold smallV packed
    rw [if_pos h1.2, h1.1]
end Go.Proofs.YtdkmhjiojealoaaGreatDoorX

namespace Go.Proofs.YtdkmhjiojealoaaGreatDoorX
open Go Go.RowKit
attribute [local irreducible] XS XC XA thenE blockE retE loopE loopS cutB cutN doneE SE
structure Pt where
  t : Int
  r : Int
  w : Int
deriving DecidableEq
abbrev Pt.cells (p : Pt) : List Value := [.int .u64 p.t, .int .u32 p.r, .int .u32 p.w]
def pv (p : Pt) : Value := .agg #[.int .u64 p.t, .int .u32 p.r, .int .u32 p.w]
def U64 (x : Int) : Prop := 0 ≤ x ∧ x < 18446744073709551616
def U32 (x : Int) : Prop := 0 ≤ x ∧ x < 4294967296
instance (x : Int) : Decidable (U64 x) := by unfold U64; infer_instance
instance (x : Int) : Decidable (U32 x) := by unfold U32; infer_instance
def Pt.In (p : Pt) : Prop := U64 p.t ∧ U32 p.r ∧ U32 p.w
instance (p : Pt) : Decidable p.In := by unfold Pt.In; infer_instance
def sn (t u : Int) : Int := (t - u + 9223372036854775808) % 18446744073709551616 - 9223372036854775808
theorem sn_rng (t u : Int) : -9223372036854775808 ≤ sn t u ∧ sn t u < 9223372036854775808 := by unfold sn; omega
theorem sn_in (t u : Int) : In64 (sn t u) := sn_rng t u
def lat (t d : Int) : Int := (t + d) % 18446744073709551616
theorem lat_in (t d : Int) : U64 (lat t d) := by unfold lat U64; omega
theorem int_cong {k : IntKind} {a b : Int} (h : a = b) : packed [Value.int k a] = .int k b := by rw [h]; rfl
theorem since_ret (t u : Int) (w0 : World) : Ret Tryz.prog 68 #[.int .u64 t, .int .u64 u] w0 fun v w' => v = .int .i64 (sn t u) ∧ Only [] w0 w' := by
  have hs := St.nil w0
  refine ret_of_xc Tryz.func68 (by kernel_rfl) rfl Tryz.ntmps68 rfl rfl rfl ?_
  repeat' (first|refine vs (k:=?_)|refine qRg ?_|refine Nx.h ?_|fail)
  first | refine rt (hq := ?_) | refine rt' (hq := ?_)
  refine ⟨int_cong ?_, hs.only0 rfl⟩
  simp only [wrap_u64, wrap_i64, sn]; omega
theorem vadd_ret (t d : Int) (w0 : World) : Ret Tryz.prog 49 #[.int .u64 t, .int .i64 d] w0 fun v w' => v = .int .u64 (lat t d) ∧ Only [] w0 w' := by
  have hs := St.nil w0
  refine ret_of_xc Tryz.func49 (by kernel_rfl) rfl Tryz.ntmps49 rfl rfl rfl ?_
  repeat' (first|refine vs (k:=?_)|refine qRg ?_|refine Nx.h ?_|fail)
  first | refine rt (hq := ?_) | refine rt' (hq := ?_)
  refine ⟨int_cong ?_, hs.only0 rfl⟩
  simp only [wrap_u64, wrap_i64, lat]; omega
def mayW (w : Int) : Bool := decide (1 ≤ w) && decide (w ≤ 1048576)
theorem weight_ret (w : Int) (w0 : World) : Ret Tryz.prog 98 #[.int .u32 w] w0 fun v w' => v = .bool (mayW w) ∧ Only [] w0 w' := by
  have hs := St.nil w0
  refine ret_of_xc Tryz.func98 (by kernel_rfl) rfl Tryz.ntmps98 rfl rfl rfl ?_
  repeat' (first|refine vs (k:=?_)|refine ps (k:=?_)|refine qRg ?_|refine Nx.h ?_|((with_reducible apply xs_guard);exact rfl;exact rfl;intro c hc;(fail_if_success have:true=c:=hc);(fail_if_success have:false=c:=hc);cases c)|fail)
  all_goals (first | refine rt (hq := ?_) | refine rt' (hq := ?_))
  all_goals refine ⟨?_, hs.only0 rfl⟩
  · unfold mayW; have := of_decide_eq_false hc; simp only [packed]; congr 1; simp; omega
  · unfold mayW; have := of_decide_eq_true hc; simp only [packed]; congr 1; simp; omega
def Pt.right (p : Pt) : Bool := mayW p.w && decide (p.r < p.w)
theorem pright_ret (p : Pt) (w0 : World) : Ret Tryz.prog 69 #[pv p] w0 fun v w' => v = .bool p.right ∧ Only [] w0 w' := by
  have hs := St.nil w0
  refine ret_of_xc Tryz.func69 (by kernel_rfl) rfl Tryz.ntmps69 rfl rfl rfl ?_
  repeat' (first|refine vs (k:=?_)|(refine bx hs (k:=?_);intro b w hz hs)|refine qRg ?_|refine Nx.h ?_|fail)
  (with_reducible apply xs_call); exact rfl; exact rfl; exact weight_ret _ _
  rintro v w' ⟨rfl, ho⟩; replace hs := hs.call0 ho; repeat' (first|refine vs (k:=?_)|refine ps (k:=?_)|refine Nx.h ?_|((with_reducible apply xs_guard);exact rfl;exact rfl;intro c hc;(fail_if_success have:true=c:=hc);(fail_if_success have:false=c:=hc);cases c)|fail)
  all_goals (first | refine rt (hq := ?_) | refine rt' (hq := ?_))
  all_goals refine ⟨?_, hs.only0 rfl⟩
  · unfold Pt.right; rw [hc]; rfl
  · unfold Pt.right; rw [hc]; rfl
theorem mul_rng {w s W S : Int} (h0 : 0 ≤ w) (h1 : w ≤ W) (h2 : -S ≤ s) (h3 : s ≤ S) : -(W * S) ≤ w * s ∧ w * s ≤ W * S := by
  have hS : 0 ≤ S := by omega
  have a : w * S ≤ W * S := Int.mul_le_mul_of_nonneg_right h1 hS
  have b : w * s ≤ w * S := Int.mul_le_mul_of_nonneg_left h3 h0
  have c : w * (-S) ≤ w * s := Int.mul_le_mul_of_nonneg_left h2 h0
  rw [Int.mul_neg] at c
  omega
theorem u64_id {x : Int} (h : U64 x) : IntKind.u64.wrap x = x := by rw [wrap_u64]; unfold U64 at h; omega
theorem u64_of32 {x : Int} (h : U32 x) : IntKind.u64.wrap x = x := by rw [wrap_u64]; unfold U32 at h; omega
theorem wrap_u32 (n : Int) : IntKind.u32.wrap n = n % 4294967296 := by simp [IntKind.wrap, IntKind.signed, IntKind.bits]
theorem u32_id {x : Int} (h : U32 x) : IntKind.u32.wrap x = x := by rw [wrap_u32]; unfold U32 at h; omega
theorem ofU32_ret (x : Int) (h : U32 x) (w0 : World) : Ret Tryz.prog 116 #[.int .u64 (IntKind.u64.wrap x)] w0 fun v w' => v = wv x ∧ Only [] w0 w' := by
  rw [u64_of32 h]; unfold U32 at h; exact ofU_ret x (by omega) (by omega) w0
def dist (p : Pt) (base : Int) : Int := p.w * sn p.t base + p.r
theorem dist_rng {p : Pt} (h : p.In) (base : Int) : -(4294967296 * 9223372036854775808) ≤ p.w * sn p.t base ∧ p.w * sn p.t base ≤ 4294967296 * 9223372036854775808 :=
  mul_rng h.2.2.1 (Int.le_of_lt h.2.2.2) (by have := sn_rng p.t base; omega) (by have := sn_rng p.t base; omega)
theorem dist_in {p : Pt} (h : p.In) (base : Int) : InW (dist p base) := by
  have h1 := dist_rng h base
  obtain ⟨_, ⟨h2, h3⟩, _⟩ := h
  unfold dist InW; omega
theorem tell_in {x : Int} (h : InW x) : tellV x = .tuple #[wv x, .bool true] := if_pos h
theorem dist_ret (p : Pt) (base : Int) (h : p.In) (w0 : World) : Ret Tryz.prog 102 #[pv p, .int .u64 base] w0 fun v w' => v = wv (dist p base) ∧ Only [] w0 w' := by
  have h1 := dist_rng h base
  have h4 := dist_in h base
  obtain ⟨⟨ht0, ht1⟩, ⟨hr0, hr1⟩, hw0, hw1⟩ := h
  have h2 := sn_rng p.t base
  have hs := St.nil w0
  refine ret_of_xc Tryz.func102 (by kernel_rfl) rfl Tryz.ntmps102 rfl rfl rfl ?_
  repeat' (first|(refine al hs (k:=?_);intro b w hz hs)|(refine bx hs (k:=?_);intro b w hz hs)|refine qRg ?_|refine Nx.h ?_|fail)
  refine dr [] hs (k := ?_); intro hX w hs
  refine tk 0 hX (k := ?_)
  refine tk 1 hX (k := ?_)
  refine tk 2 hX (k := ?_)
  refine tk 4 hX (k := ?_)
  refine tk 5 hX (k := ?_)
  refine tk 6 hX (k := ?_)
  refine pd0 12 5 hs (k := ?_); intro f X w hp; have hs := hp.st
  apply xa_pend 3 12 (f := f) (X := X) hX hp; exact rfl; exact rfl; (first | (apply makes_alloc tabOk; exact rfl) | (apply makes_slice tabOk; exact rfl; exact rfl; exact rfl; exact rfl; exact rfl; (intro X; ((repeat (first | exact Bld.nil | (apply Bld.one; exact rfl; (conv => lhs; whnf); exact rfl; (repeat (first | exact PutL.nil | apply PutL.skip | apply PutL.cons))) | (apply Bld.agg; exact rfl; exact rfl; exact rfl; (repeat (first | exact PutL.nil | apply PutL.skip | apply PutL.cons))))))))); kernel_rfl; kernel_rfl; kernel_rfl; kernel_rfl; (intro X Y; (repeat (first | exact pgg_base | refine pgg_step ?_ (by exact rfl)))); (intro w' hs; ((first | exact se_hold hs.hold | exact se_hold (hold_sim hs.hold rfl) | exact se_hold (hold_sim hs.hold.tail rfl) | exact se_hold (hR hs rfl) | exact se_hold hs.hold.tail | exact se_hold hs.hold.tail.tail | exact se_hold hs.hold.tail.tail.tail | exact se_done rfl))); intro f X w hp; have hs := hp.st
  (with_reducible apply xs_call); exact rfl; exact rfl; exact ofU32_ret p.w ⟨hw0, hw1⟩ _
  rintro v w' ⟨rfl, ho⟩; replace hp := hp.only ho; replace hs := hp.st; repeat' (first|refine Nx.h ?_|fail)
  refine dn (k := ?_)
  apply xa_pend 7 12 (f := f) (X := X) hX hp; exact rfl; exact rfl; (first | (apply makes_alloc tabOk; exact rfl) | (apply makes_slice tabOk; exact rfl; exact rfl; exact rfl; exact rfl; exact rfl; (intro X; ((repeat (first | exact Bld.nil | (apply Bld.one; exact rfl; (conv => lhs; whnf); exact rfl; (repeat (first | exact PutL.nil | apply PutL.skip | apply PutL.cons))) | (apply Bld.agg; exact rfl; exact rfl; exact rfl; (repeat (first | exact PutL.nil | apply PutL.skip | apply PutL.cons))))))))); kernel_rfl; kernel_rfl; kernel_rfl; kernel_rfl; (intro X Y; (repeat (first | exact pgg_base | refine pgg_step ?_ (by exact rfl)))); (intro w' hs; ((first | exact se_hold hs.hold | exact se_hold (hold_sim hs.hold rfl) | exact se_hold (hold_sim hs.hold.tail rfl) | exact se_hold (hR hs rfl) | exact se_hold hs.hold.tail | exact se_hold hs.hold.tail.tail | exact se_hold hs.hold.tail.tail.tail | exact se_done rfl))); intro f X w hp; have hs := hp.st
  (with_reducible apply xs_call); exact rfl; exact rfl; exact since_ret p.t base _
  rintro v w' ⟨rfl, ho⟩; replace hp := hp.only ho; replace hs := hp.st; repeat' (first|refine Nx.h ?_|fail)
  refine dn (k := ?_)
  apply xa_pend 8 12 (f := f) (X := X) hX hp; exact rfl; exact rfl; (first | (apply makes_alloc tabOk; exact rfl) | (apply makes_slice tabOk; exact rfl; exact rfl; exact rfl; exact rfl; exact rfl; (intro X; ((repeat (first | exact Bld.nil | (apply Bld.one; exact rfl; (conv => lhs; whnf); exact rfl; (repeat (first | exact PutL.nil | apply PutL.skip | apply PutL.cons))) | (apply Bld.agg; exact rfl; exact rfl; exact rfl; (repeat (first | exact PutL.nil | apply PutL.skip | apply PutL.cons))))))))); kernel_rfl; kernel_rfl; kernel_rfl; kernel_rfl; (intro X Y; (repeat (first | exact pgg_base | refine pgg_step ?_ (by exact rfl)))); (intro w' hs; ((first | exact se_hold hs.hold | exact se_hold (hold_sim hs.hold rfl) | exact se_hold (hold_sim hs.hold.tail rfl) | exact se_hold (hR hs rfl) | exact se_hold hs.hold.tail | exact se_hold hs.hold.tail.tail | exact se_hold hs.hold.tail.tail.tail | exact se_done rfl))); intro f X w hp; have hs := hp.st
  (with_reducible apply xs_call); exact rfl; exact rfl; exact mul_ret p.w (sn p.t base) (by unfold InW; omega) (by omega) (by omega) _
  rw [tell_in (by unfold InW; omega)]
  rintro v w' ⟨rfl, ho⟩; replace hp := hp.only ho; replace hs := hp.st; repeat' (first|refine Nx.h ?_|fail)
  refine dn (k := ?_)
  refine tk 9 hX (hc := by cases f <;> kernel_rfl) (k := ?_)
  refine tk 10 hX (hc := by cases f <;> kernel_rfl) (k := ?_)
  refine tk 11 hX (hc := by cases f <;> kernel_rfl) (k := ?_)
  apply xa_pendE 12 (f := f) (X := X) hX hp; exact rfl; (first | (apply makes_alloc tabOk; exact rfl) | (apply makes_slice tabOk; exact rfl; exact rfl; exact rfl; exact rfl; exact rfl; (intro X; ((repeat (first | exact Bld.nil | (apply Bld.one; exact rfl; (conv => lhs; whnf); exact rfl; (repeat (first | exact PutL.nil | apply PutL.skip | apply PutL.cons))) | (apply Bld.agg; exact rfl; exact rfl; exact rfl; (repeat (first | exact PutL.nil | apply PutL.skip | apply PutL.cons))))))))); kernel_rfl; kernel_rfl; (intro X Y; (repeat (first | exact pgg_base | refine pgg_step ?_ (by exact rfl)))); (intro w' hs; ((first | exact se_hold hs.hold | exact se_hold (hold_sim hs.hold rfl) | exact se_hold (hold_sim hs.hold.tail rfl) | exact se_hold (hR hs rfl) | exact se_hold hs.hold.tail | exact se_hold hs.hold.tail.tail | exact se_hold hs.hold.tail.tail.tail | exact se_done rfl))); intro b w hI hs
  refine dt 13 hX (k := ?_)
  repeat' (first|(refine stA hs (k:=?_);intro w hs)|refine Nx.h ?_|fail)
  refine dn (k := ?_)
  refine tk 14 hX (k := ?_)
  refine en (k := ?_)
  repeat' (first|refine Nx.h ?_|fail)
  refine dr [9] hs (k := ?_); intro hX w hs
  refine tk 0 hX (k := ?_)
  refine tk 1 hX (k := ?_)
  refine tk 2 hX (k := ?_)
  refine tk 3 hX (k := ?_)
  refine dt 4 hX (k := ?_)
  (with_reducible apply xs_call); exact rfl; exact rfl; exact ofU32_ret p.r ⟨hr0, hr1⟩ _
  rintro v w' ⟨rfl, ho⟩; replace hs := hs.call0 ho; repeat' (first|refine Nx.h ?_|fail)
  refine dn (k := ?_)
  refine dt 5 hX (k := ?_)
  (with_reducible apply xs_call); exact rfl; exact rfl; exact add_ret (p.w * sn p.t base) p.r (by unfold InW; omega) (by unfold InW; omega) _
  rw [tell_in (x := p.w * sn p.t base + p.r) h4]
  rintro v w' ⟨rfl, ho⟩; replace hs := hs.call0 ho; repeat' (first|refine Nx.h ?_|fail)
  refine dn (k := ?_)
  refine tk 6 hX (k := ?_)
  refine tk 7 hX (k := ?_)
  refine tk 8 hX (k := ?_)
  refine dt 9 hX (k := ?_)
  repeat' (first|(refine stA hs (k:=?_);intro w hs)|refine Nx.h ?_|fail)
  refine dn (k := ?_)
  refine en (k := ?_)
  repeat' (first|refine vs (k:=?_)|(refine stA hs (k:=?_);intro w hs)|refine qRg ?_|refine Nx.h ?_|fail)
  first | refine rt (hq := ?_) | refine rt' (hq := ?_)
  exact ⟨rfl, hs.only0 rfl⟩
theorem add_ok (x y : Int) (hx : InW x) (hy : InW y) (h : InW (x + y)) (w0 : World) : Ret Tryz.prog 101 #[wv x, wv y] w0 fun v w' => v = .tuple #[wv (x + y), .bool true] ∧ Only [] w0 w' := by
  have := add_ret x y hx hy w0; rwa [tell_in h] at this
theorem sub_ok (x y : Int) (hx : InW x) (hy : InW y) (h : InW (x - y)) (w0 : World) : Ret Tryz.prog 109 #[wv x, wv y] w0 fun v w' => v = .tuple #[wv (x - y), .bool true] ∧ Only [] w0 w' := by
  have := sub_ret x y hx hy w0; rwa [tell_in h] at this
theorem mul_ok (x n : Int) (hx : InW x) (hn0 : -9223372036854775808 ≤ n) (hn1 : n < 9223372036854775808) (h : InW (x * n)) (w0 : World) : Ret Tryz.prog 112 #[wv x, .int .i64 n] w0 fun v w' => v = .tuple #[wv (x * n), .bool true] ∧ Only [] w0 w' := by
  have := mul_ret x n hx hn0 hn1 w0; rwa [tell_in h] at this
theorem div_ok (x y : Int) (hx : InW x) (hy0 : 0 < y) (hy1 : y < 18446744073709551616) (w0 : World) : Ret Tryz.prog 47 #[wv x, .int .u64 y] w0 fun v w' => v = .tuple #[wv (x / y), .int .u64 (x % y), .bool true] ∧ Only [] w0 w' := by
  have := div_ret x y hx (by omega) hy1 w0; unfold divV at this; rwa [if_neg (by omega)] at this
theorem div_in {x y : Int} (hx : InW x) (hy : 0 < y) : InW (x / y) := by
  obtain ⟨h1, h2⟩ := hx
  unfold InW
  constructor
  · rw [Int.le_ediv_iff_mul_le hy]
    have : -170141183460469231731687303715884105728 * y ≤ -170141183460469231731687303715884105728 := by omega
    omega
  · rw [Int.ediv_lt_iff_lt_mul hy]
    have : 170141183460469231731687303715884105728 ≤ 170141183460469231731687303715884105728 * y := by omega
    omega
theorem div64_ok (x y : Int) (hx : InW x) (hy0 : 0 < y) (hy1 : y < 4294967296) (w0 : World) : Ret Tryz.prog 47 #[wv x, .int .u64 (IntKind.u64.wrap y)] w0 fun v w' => v = .tuple #[wv (x / y), .int .u64 (x % y), .bool true] ∧ Only [] w0 w' := by
  rw [u64_of32 ⟨by omega, hy1⟩]; exact div_ok x y hx hy0 (by omega) w0
theorem small_ok (x : Int) (hx : InW x) (h : In64 x) (w0 : World) : Ret Tryz.prog 48 #[wv x] w0 fun v w' => v = .tuple #[.int .i64 x, .bool true] ∧ Only [] w0 w' := by
  have := small_ret x hx w0; unfold smallV at this; rwa [if_pos h] at this
theorem small_no (x : Int) (hx : InW x) (h : ¬ In64 x) (w0 : World) : Ret Tryz.prog 48 #[wv x] w0 fun v w' => v = .tuple #[.int .i64 0, .bool false] ∧ Only [] w0 w' := by
  have := small_ret x hx w0; unfold smallV at this; rwa [if_neg h] at this
def atP (base d w : Int) : Option Pt := if mayW w = true ∧ In64 (d / w) then some ⟨lat base (d / w), d % w, w⟩ else none
def Pt.zero : Pt := ⟨0, 0, 0⟩
def ptV (o : Option Pt) : Value := .tuple #[pv (o.getD .zero), .bool o.isSome]
theorem mayW_iff {w : Int} : mayW w = true ↔ 1 ≤ w ∧ w ≤ 1048576 := by unfold mayW; simp
theorem at_some {base d w : Int} {p : Pt} (h : atP base d w = some p) : p.In ∧ p.w = w ∧ p.right = true := by
  unfold atP at h
  split at h
  · rename_i hc
    cases h
    have h1 := mayW_iff.1 hc.1
    have m0 := Int.emod_nonneg d (show w ≠ 0 by omega)
    have m1 := Int.emod_lt_of_pos d (show 0 < w by omega)
    refine ⟨⟨lat_in _ _, ⟨m0, by show d % w < _; omega⟩, by show 0 ≤ w; omega, by show w < _; omega⟩, rfl, ?_⟩
    unfold Pt.right
    simp only [hc.1, Bool.true_and, decide_eq_true_eq]
    exact m1
  · cases h
theorem at_ret (base d q : Int) (hd : InW d) (w0 : World) : Ret Tryz.prog 117 #[.int .u64 base, wv d, .int .u32 q] w0 fun v w' => v = ptV (atP base d q) ∧ Only [] w0 w' := by
  have hs := St.nil w0
  refine ret_of_xc Tryz.func117 (by kernel_rfl) rfl Tryz.ntmps117 rfl rfl rfl ?_
  repeat' (first|refine vs (k:=?_)|(refine al hs (k:=?_);intro b w hz hs)|(refine bx hs (k:=?_);intro b w hz hs)|refine qRg ?_|refine Nx.h ?_|fail)
  (with_reducible apply xs_call); exact rfl; exact rfl; exact weight_ret q _
  rintro v w' ⟨rfl, ho⟩; replace hs := hs.call0 ho; repeat' (first|refine vs (k:=?_)|(refine stA hs (k:=?_);intro w hs)|refine qRg ?_|refine Nx.h ?_|(refine xc_cond rfl (fun hc=>?_) (fun hc=>?_))|fail)
  · first | refine rt (hq := ?_) | refine rt' (hq := ?_)
    refine ⟨?_, hs.only0 rfl⟩
    have : mayW q = false := by simpa using hc
    unfold atP
    rw [this]; rfl
  · have h0 : mayW q = true := by simpa using hc
    have h1 := mayW_iff.1 h0
    (with_reducible apply xs_call); exact rfl; exact rfl; exact div64_ok d q hd (by omega) (by omega) _
    rintro v w' ⟨rfl, ho⟩; replace hs := hs.call0 ho; repeat' (first|refine vs (k:=?_)|(refine stA hs (k:=?_);intro w hs)|(refine al hs (k:=?_);intro b w hz hs)|refine qRg ?_|refine Nx.h ?_|fail)
    by_cases h64 : In64 (d / q)
    · (with_reducible apply xs_call); exact rfl; exact rfl; exact small_ok (d / q) (div_in hd (by omega)) h64 _
      rintro v w' ⟨rfl, ho⟩; replace hs := hs.call0 ho; repeat' (first|refine vs (k:=?_)|refine qRg ?_|refine Nx.h ?_|refine qCf ?_|fail)
      (with_reducible apply xs_call); exact rfl; exact rfl; exact vadd_ret base (d / q) _
      rintro v w' ⟨rfl, ho⟩; replace hs := hs.call0 ho; repeat' (first|refine vs (k:=?_)|(refine stA hs (k:=?_);intro w hs)|refine Nx.h ?_|fail)
      first | refine rt (hq := ?_) | refine rt' (hq := ?_)
      refine ⟨?_, hs.only0 rfl⟩
      unfold atP
      rw [if_pos ⟨h0, h64⟩]
      have e : IntKind.u32.wrap (d % q) = d % q := u32_id ⟨Int.emod_nonneg _ (by omega), by have := Int.emod_lt_of_pos d (show 0 < q by omega); omega⟩
      rw [e]; rfl
    · (with_reducible apply xs_call); exact rfl; exact rfl; exact small_no (d / q) (div_in hd (by omega)) h64 _
      rintro v w' ⟨rfl, ho⟩; replace hs := hs.call0 ho; repeat' (first|refine vs (k:=?_)|(refine stA hs (k:=?_);intro w hs)|refine qRg ?_|refine Nx.h ?_|refine qCt ?_|fail)
      first | refine rt (hq := ?_) | refine rt' (hq := ?_)
      refine ⟨?_, hs.only0 rfl⟩
      unfold atP
      rw [if_neg (fun h => h64 h.2)]; rfl
end Go.Proofs.YtdkmhjiojealoaaGreatDoorX

namespace Go.Proofs.YtdkmhjiojealoaaGreatDoorX
open Go Go.RowKit
attribute [local irreducible] XS XC XA thenE blockE retE loopE loopS cutB cutN doneE SE
def tot (x : Int) : Int := if InW x then x else 0
theorem tot_in (x : Int) : InW (tot x) := by unfold tot; split; assumption; decide
theorem tell_tot (x : Int) : tellV x = .tuple #[wv (tot x), .bool (decide (InW x))] := by
  unfold tellV tot; split <;> rename_i h <;> simp [h]
theorem add_t (x y : Int) (hx : InW x) (hy : InW y) (w0 : World) : Ret Tryz.prog 101 #[wv x, wv y] w0 fun v w' => v = .tuple #[wv (tot (x + y)), .bool (decide (InW (x + y)))] ∧ Only [] w0 w' := by
  have := add_ret x y hx hy w0; rwa [tell_tot] at this
theorem sub_t (x y : Int) (hx : InW x) (hy : InW y) (w0 : World) : Ret Tryz.prog 109 #[wv x, wv y] w0 fun v w' => v = .tuple #[wv (tot (x - y)), .bool (decide (InW (x - y)))] ∧ Only [] w0 w' := by
  have := sub_ret x y hx hy w0; rwa [tell_tot] at this
theorem mul_t (x n : Int) (hx : InW x) (hn : In64 n) (w0 : World) : Ret Tryz.prog 112 #[wv x, .int .i64 n] w0 fun v w' => v = .tuple #[wv (tot (x * n)), .bool (decide (InW (x * n)))] ∧ Only [] w0 w' := by
  have := mul_ret x n hx hn.1 hn.2 w0; rwa [tell_tot] at this
theorem neg_t (x : Int) (hx : InW x) (w0 : World) : Ret Tryz.prog 161 #[wv x] w0 fun v w' => v = .tuple #[wv (tot (-x)), .bool (decide (InW (-x)))] ∧ Only [] w0 w' := by
  have := neg_ret x hx w0; rwa [tell_tot] at this
def sml (x : Int) : Int := if In64 x then x else 0
theorem small_t (x : Int) (hx : InW x) (w0 : World) : Ret Tryz.prog 48 #[wv x] w0 fun v w' => v = .tuple #[.int .i64 (sml x), .bool (decide (In64 x))] ∧ Only [] w0 w' := by
  have := small_ret x hx w0
  have e : smallV x = .tuple #[.int .i64 (sml x), .bool (decide (In64 x))] := by unfold smallV sml; split <;> rename_i h <;> simp [h]
  rwa [e] at this
def dq (x y : Int) : Int := if y = 0 then 0 else x / y
def dm (x y : Int) : Int := if y = 0 then 0 else x % y
theorem dq_in {x y : Int} (hx : InW x) (hy : 0 ≤ y) : InW (dq x y) := by
  unfold dq; split; decide; exact div_in hx (by omega)
theorem div_t (x y : Int) (hx : InW x) (hy : U64 y) (w0 : World) : Ret Tryz.prog 47 #[wv x, .int .u64 y] w0 fun v w' => v = .tuple #[wv (dq x y), .int .u64 (dm x y), .bool (decide (y ≠ 0))] ∧ Only [] w0 w' := by
  have := div_ret x y hx hy.1 hy.2 w0
  have e : divV x y = .tuple #[wv (dq x y), .int .u64 (dm x y), .bool (decide (y ≠ 0))] := by unfold divV dq dm; split <;> rename_i h <;> simp [h]
  rwa [e] at this
def movP (p : Pt) (g : Int) : Option Pt := atP p.t (g + p.r) p.w
theorem move_ret (p : Pt) (g : Int) (h : p.In) (hg : U64 g) (w0 : World) : Ret Tryz.prog 91 #[pv p, .int .u64 g] w0 fun v w' => v = ptV (movP p g) ∧ Only [] w0 w' := by
  obtain ⟨⟨ht0, ht1⟩, ⟨hr0, hr1⟩, hw0, hw1⟩ := h
  obtain ⟨hg0, hg1⟩ := hg
  have hs := St.nil w0
  refine ret_of_xc Tryz.func91 (by kernel_rfl) rfl Tryz.ntmps91 rfl rfl rfl ?_
  repeat' (first|refine vs (k:=?_)|(refine al hs (k:=?_);intro b w hz hs)|(refine bx hs (k:=?_);intro b w hz hs)|refine qRg ?_|refine Nx.h ?_|fail)
  refine dr [] hs (k := ?_); intro hX w hs
  refine tk 0 hX (k := ?_)
  refine tk 2 hX (k := ?_)
  refine tk 3 hX (k := ?_)
  refine tk 4 hX (k := ?_)
  refine pd0 10 6 hs (k := ?_); intro f X w hp; have hs := hp.st
  apply xa_pend 1 10 (f := f) (X := X) hX hp; exact rfl; exact rfl; (first | (apply makes_alloc tabOk; exact rfl) | (apply makes_slice tabOk; exact rfl; exact rfl; exact rfl; exact rfl; exact rfl; (intro X; ((repeat (first | exact Bld.nil | (apply Bld.one; exact rfl; (conv => lhs; whnf); exact rfl; (repeat (first | exact PutL.nil | apply PutL.skip | apply PutL.cons))) | (apply Bld.agg; exact rfl; exact rfl; exact rfl; (repeat (first | exact PutL.nil | apply PutL.skip | apply PutL.cons))))))))); kernel_rfl; kernel_rfl; kernel_rfl; kernel_rfl; (intro X Y; (repeat (first | exact pgg_base | refine pgg_step ?_ (by exact rfl)))); (intro w' hs; ((first | exact se_hold hs.hold | exact se_hold (hold_sim hs.hold rfl) | exact se_hold (hold_sim hs.hold.tail rfl) | exact se_hold (hR hs rfl) | exact se_hold hs.hold.tail | exact se_hold hs.hold.tail.tail | exact se_hold hs.hold.tail.tail.tail | exact se_done rfl))); intro f X w hp; have hs := hp.st
  (with_reducible apply xs_call); exact rfl; exact rfl; exact ofU_ret g (by omega) (by omega) _
  rintro v w' ⟨rfl, ho⟩; replace hp := hp.only ho; replace hs := hp.st; repeat' (first|refine Nx.h ?_|fail)
  refine dn (k := ?_)
  apply xa_pend 5 10 (f := f) (X := X) hX hp; exact rfl; exact rfl; (first | (apply makes_alloc tabOk; exact rfl) | (apply makes_slice tabOk; exact rfl; exact rfl; exact rfl; exact rfl; exact rfl; (intro X; ((repeat (first | exact Bld.nil | (apply Bld.one; exact rfl; (conv => lhs; whnf); exact rfl; (repeat (first | exact PutL.nil | apply PutL.skip | apply PutL.cons))) | (apply Bld.agg; exact rfl; exact rfl; exact rfl; (repeat (first | exact PutL.nil | apply PutL.skip | apply PutL.cons))))))))); kernel_rfl; kernel_rfl; kernel_rfl; kernel_rfl; (intro X Y; (repeat (first | exact pgg_base | refine pgg_step ?_ (by exact rfl)))); (intro w' hs; ((first | exact se_hold hs.hold | exact se_hold (hold_sim hs.hold rfl) | exact se_hold (hold_sim hs.hold.tail rfl) | exact se_hold (hR hs rfl) | exact se_hold hs.hold.tail | exact se_hold hs.hold.tail.tail | exact se_hold hs.hold.tail.tail.tail | exact se_done rfl))); intro f X w hp; have hs := hp.st
  (with_reducible apply xs_call); exact rfl; exact rfl; exact ofU32_ret p.r ⟨hr0, hr1⟩ _
  rintro v w' ⟨rfl, ho⟩; replace hp := hp.only ho; replace hs := hp.st; repeat' (first|refine Nx.h ?_|fail)
  refine dn (k := ?_)
  apply xa_pend 6 10 (f := f) (X := X) hX hp; exact rfl; exact rfl; (first | (apply makes_alloc tabOk; exact rfl) | (apply makes_slice tabOk; exact rfl; exact rfl; exact rfl; exact rfl; exact rfl; (intro X; ((repeat (first | exact Bld.nil | (apply Bld.one; exact rfl; (conv => lhs; whnf); exact rfl; (repeat (first | exact PutL.nil | apply PutL.skip | apply PutL.cons))) | (apply Bld.agg; exact rfl; exact rfl; exact rfl; (repeat (first | exact PutL.nil | apply PutL.skip | apply PutL.cons))))))))); kernel_rfl; kernel_rfl; kernel_rfl; kernel_rfl; (intro X Y; (repeat (first | exact pgg_base | refine pgg_step ?_ (by exact rfl)))); (intro w' hs; ((first | exact se_hold hs.hold | exact se_hold (hold_sim hs.hold rfl) | exact se_hold (hold_sim hs.hold.tail rfl) | exact se_hold (hR hs rfl) | exact se_hold hs.hold.tail | exact se_hold hs.hold.tail.tail | exact se_hold hs.hold.tail.tail.tail | exact se_done rfl))); intro f X w hp; have hs := hp.st
  (with_reducible apply xs_call); exact rfl; exact rfl; exact add_ok g p.r (by unfold InW; omega) (by unfold InW; omega) (by unfold InW; omega) _
  rintro v w' ⟨rfl, ho⟩; replace hp := hp.only ho; replace hs := hp.st; repeat' (first|refine Nx.h ?_|fail)
  refine dn (k := ?_)
  refine tk 7 hX (hc := by cases f <;> kernel_rfl) (k := ?_)
  refine tk 8 hX (hc := by cases f <;> kernel_rfl) (k := ?_)
  refine tk 9 hX (hc := by cases f <;> kernel_rfl) (k := ?_)
  apply xa_pendE 10 (f := f) (X := X) hX hp; exact rfl; (first | (apply makes_alloc tabOk; exact rfl) | (apply makes_slice tabOk; exact rfl; exact rfl; exact rfl; exact rfl; exact rfl; (intro X; ((repeat (first | exact Bld.nil | (apply Bld.one; exact rfl; (conv => lhs; whnf); exact rfl; (repeat (first | exact PutL.nil | apply PutL.skip | apply PutL.cons))) | (apply Bld.agg; exact rfl; exact rfl; exact rfl; (repeat (first | exact PutL.nil | apply PutL.skip | apply PutL.cons))))))))); kernel_rfl; kernel_rfl; (intro X Y; (repeat (first | exact pgg_base | refine pgg_step ?_ (by exact rfl)))); (intro w' hs; ((first | exact se_hold hs.hold | exact se_hold (hold_sim hs.hold rfl) | exact se_hold (hold_sim hs.hold.tail rfl) | exact se_hold (hR hs rfl) | exact se_hold hs.hold.tail | exact se_hold hs.hold.tail.tail | exact se_hold hs.hold.tail.tail.tail | exact se_done rfl))); intro b w hI hs
  refine dt 11 hX (k := ?_)
  repeat' (first|(refine stA hs (k:=?_);intro w hs)|refine Nx.h ?_|fail)
  refine dn (k := ?_)
  refine tk 12 hX (k := ?_)
  refine en (k := ?_)
  repeat' (first|refine vs (k:=?_)|refine qRg ?_|refine Nx.h ?_|fail)
  (with_reducible apply xs_call); exact rfl; exact rfl; exact at_ret p.t (g + p.r) p.w (by unfold InW; omega) _
  rintro v w' ⟨rfl, ho⟩; replace hs := hs.call0 ho; repeat' (first|refine vs (k:=?_)|(refine stA hs (k:=?_);intro w hs)|refine Nx.h ?_|fail)
  first | refine rt (hq := ?_) | refine rt' (hq := ?_)
  exact ⟨rfl, hs.only0 rfl⟩
def cmpP (p q : Pt) : Int := if cmpI 0 (sn q.t p.t) = 0 then cmpI (p.r * q.w) (q.r * p.w) else cmpI 0 (sn q.t p.t)
theorem prod32 {a b : Int} (ha : U32 a) (hb : U32 b) : IntKind.u64.wrap (IntKind.u64.wrap a * IntKind.u64.wrap b) = a * b := by
  rw [u64_of32 ha, u64_of32 hb]
  refine u64_id ⟨Int.mul_nonneg ha.1 hb.1, ?_⟩
  have := mul_rng (w := a) (s := b) (W := 4294967296) (S := 4294967296) ha.1 (Int.le_of_lt ha.2) (by have := hb.1; omega) (Int.le_of_lt hb.2)
  have h1 := ha.2
  have h2 : a * b ≤ a * 4294967295 := Int.mul_le_mul_of_nonneg_left (by have := hb.2; omega) ha.1
  omega
theorem pcmp_ret (p q : Pt) (hp' : p.In) (hq : q.In) (w0 : World) : Ret Tryz.prog 94 #[pv p, pv q] w0 fun v w' => v = .int .i64 (cmpP p q) ∧ Only [] w0 w' := by
  have hs := St.nil w0
  refine ret_of_xc Tryz.func94 (by kernel_rfl) rfl Tryz.ntmps94 rfl rfl rfl ?_
  repeat' (first|refine vs (k:=?_)|(refine bx hs (k:=?_);intro b w hz hs)|refine qRg ?_|refine Nx.h ?_|fail)
  refine dr [] hs (k := ?_); intro hX w hs
  refine tk 0 hX (k := ?_)
  refine tk 1 hX (k := ?_)
  refine tk 2 hX (k := ?_)
  refine tk 3 hX (k := ?_)
  refine tk 6 hX (k := ?_)
  refine tk 7 hX (k := ?_)
  refine tk 8 hX (k := ?_)
  refine tk 9 hX (k := ?_)
  refine tk 10 hX (k := ?_)
  refine tk 11 hX (k := ?_)
  refine tk 12 hX (k := ?_)
  refine tk 13 hX (k := ?_)
  refine tk 14 hX (k := ?_)
  refine tk 15 hX (k := ?_)
  refine tk 16 hX (k := ?_)
  refine tk 17 hX (k := ?_)
  refine tk 18 hX (k := ?_)
  refine tk 19 hX (k := ?_)
  refine xa_set 17 (congrArg (Value.int .u64) (prod32 hp'.2.1 hq.2.2)) ?_
  refine xa_set 24 (congrArg (Value.int .u64) (prod32 hq.2.1 hp'.2.2)) ?_
  refine dt 4 hX (k := ?_)
  (with_reducible apply xs_call); exact rfl; exact rfl; exact since_ret q.t p.t _
  rintro v w' ⟨rfl, ho⟩; replace hs := hs.call0 ho; repeat' (first|refine Nx.h ?_|fail)
  refine dn (k := ?_)
  refine dt 5 hX (k := ?_)
  (with_reducible apply xs_call); exact rfl; exact rfl; exact compareS_ret 0 (sn q.t p.t) _
  rintro v w' ⟨rfl, ho⟩; replace hs := hs.call0 ho; repeat' (first|refine Nx.h ?_|fail)
  refine dn (k := ?_)
  refine dt 20 hX (k := ?_)
  (with_reducible apply xs_call); exact rfl; exact rfl; exact compareU_ret (p.r * q.w) (q.r * p.w) _
  rintro v w' ⟨rfl, ho⟩; replace hs := hs.call0 ho; repeat' (first|refine Nx.h ?_|fail)
  refine dn (k := ?_)
  refine dt 21 hX (k := ?_)
  repeat' (first|(refine bs hs (k:=?_);intro b w hz hs)|refine Nx.h ?_|fail)
  refine dn (k := ?_)
  refine dt 22 hX (k := ?_)
  (with_reducible apply xs_call); exact rfl; exact rfl; exact or_ret _ _ _ _ _ (hs.get At.head)
  rintro v w' ⟨rfl, ho⟩; replace hs := hs.call0 ho; repeat' (first|refine Nx.h ?_|fail)
  refine dn (k := ?_)
  refine tk 23 hX (k := ?_)
  refine en (k := ?_)
  repeat' (first|refine Nx.h ?_|fail)
  first | refine rt (hq := ?_) | refine rt' (hq := ?_)
  exact ⟨rfl, hs.only0 rfl⟩
def Pt.shift (p : Pt) (by_ : Int) : Pt := ⟨lat p.t by_, p.r, p.w⟩
theorem Pt.shift_in {p : Pt} (h : p.In) (d : Int) : (p.shift d).In := ⟨lat_in _ _, h.2⟩
theorem pshift_ret (p : Pt) (d : Int) (w0 : World) : Ret Tryz.prog 24 #[pv p, .int .u64 d] w0 fun v w' => v = pv (p.shift d) ∧ Only [] w0 w' := by
  have hs := St.nil w0
  refine ret_of_xc Tryz.func24 (by kernel_rfl) rfl Tryz.ntmps24 rfl rfl rfl ?_
  repeat' (first|refine vs (k:=?_)|(refine st hs (k:=?_);intro w hs)|(refine stA hs (k:=?_);intro w hs)|(refine al hs (k:=?_);intro b w hz hs)|(refine bx hs (k:=?_);intro b w hz hs)|refine qRg ?_|refine Nx.h ?_|fail)
  first | refine rt (hq := ?_) | refine rt' (hq := ?_)
  refine ⟨?_, hs.only0 rfl⟩
  unfold Pt.shift pv lat packed
  rw [wrap_u64]
end Go.Proofs.YtdkmhjiojealoaaGreatDoorX

namespace Go.Proofs.YtdkmhjiojealoaaGreatDoorX
open Go Go.RowKit
attribute [local irreducible] XS XC XA thenE blockE retE loopE loopS cutB cutN doneE SE
structure It where
  p : Pt
  id : Int
  d : Pt
deriving DecidableEq
abbrev It.cells (a : It) : List Value := [.int .u64 a.p.t, .int .u32 a.p.r, .int .u32 a.p.w, .int .i64 a.id, .int .u64 a.d.t, .int .u32 a.d.r, .int .u32 a.d.w]
def iv (a : It) : Value := .agg #[.int .u64 a.p.t, .int .u32 a.p.r, .int .u32 a.p.w, .int .i64 a.id, .int .u64 a.d.t, .int .u32 a.d.r, .int .u32 a.d.w]
def It.In (a : It) : Prop := a.p.In ∧ In64 a.id ∧ a.d.In
instance (a : It) : Decidable a.In := by unfold It.In; infer_instance
def It.zero : It := ⟨.zero, 0, .zero⟩
def It.right (a : It) : Bool := a.p.right && a.d.right && decide (a.p.w = a.d.w) && decide (0 < a.id) && decide (0 ≤ sn a.d.t a.p.t) && decide (sn a.d.t a.p.t ≤ 1152921504606846976)
set_option maxHeartbeats 1000000 in
theorem iright_ret (a : It) (w0 : World) : Ret Tryz.prog 40 #[iv a] w0 fun v w' => v = .bool a.right ∧ Only [] w0 w' := by
  have hs := St.nil w0
  refine ret_of_xc Tryz.func40 (by kernel_rfl) rfl Tryz.ntmps40 rfl rfl rfl ?_
  repeat' (first|refine vs (k:=?_)|(refine bx hs (k:=?_);intro b w hz hs)|refine qRg ?_|refine Nx.h ?_|fail)
  (with_reducible apply xs_call); exact rfl; exact rfl; exact since_ret a.d.t a.p.t _
  rintro v w' ⟨rfl, ho⟩; replace hs := hs.call0 ho; repeat' (first|refine vs (k:=?_)|refine qRg ?_|refine Nx.h ?_|fail)
  (with_reducible apply xs_call); exact rfl; exact rfl; exact pright_ret a.p _
  rintro v w' ⟨rfl, ho⟩; replace hs := hs.call0 ho; repeat' (first|refine vs (k:=?_)|refine ps (k:=?_)|refine Nx.h ?_|((with_reducible apply xs_guard);exact rfl;exact rfl;intro c hc;(fail_if_success have:true=c:=hc);(fail_if_success have:false=c:=hc);cases c)|fail)
  · first | refine rt (hq := ?_) | refine rt' (hq := ?_)
    refine ⟨?_, hs.only0 rfl⟩
    clear hs
    unfold It.right packed
    simp_all
  · (with_reducible apply xs_call); exact rfl; exact rfl; exact pright_ret a.d _
    rintro v w' ⟨rfl, ho⟩; replace hs := hs.call0 ho; repeat' (first|refine vs (k:=?_)|refine ps (k:=?_)|refine Nx.h ?_|((with_reducible apply xs_guard);exact rfl;exact rfl;intro c hc;(fail_if_success have:true=c:=hc);(fail_if_success have:false=c:=hc);cases c)|fail)
    all_goals (first | refine rt (hq := ?_) | refine rt' (hq := ?_))
    all_goals refine ⟨?_, hs.only0 rfl⟩
    all_goals clear hs
    all_goals (unfold It.right packed; simp_all <;> omega)
def ahead (a b : It) : Bool := decide (cmpP a.p b.p < 0) || (decide (cmpP a.p b.p = 0) && decide (a.id < b.id))
set_option maxHeartbeats 1000000 in
theorem ahead_ret (x y : It) (ha : x.In) (hb : y.In) (w0 : World) : Ret Tryz.prog 64 #[iv x, iv y] w0 fun v w' => v = .bool (ahead x y) ∧ Only [] w0 w' := by
  have hs := St.nil w0
  refine ret_of_xc Tryz.func64 (by kernel_rfl) rfl Tryz.ntmps64 rfl rfl rfl ?_
  repeat' (first|refine vs (k:=?_)|(refine bx hs (k:=?_);intro b w hz hs)|refine qRg ?_|refine Nx.h ?_|fail)
  (with_reducible apply xs_call); exact rfl; exact rfl; exact pcmp_ret x.p y.p ha.1 hb.1 _
  rintro v w' ⟨rfl, ho⟩; replace hs := hs.call0 ho; repeat' (first|refine vs (k:=?_)|refine ps (k:=?_)|refine qRg ?_|refine Nx.h ?_|((with_reducible apply xs_guard);exact rfl;exact rfl;intro c hc;(fail_if_success have:true=c:=hc);(fail_if_success have:false=c:=hc);cases c)|fail)
  all_goals (first | refine rt (hq := ?_) | refine rt' (hq := ?_))
  all_goals refine ⟨?_, hs.only0 rfl⟩
  all_goals clear hs
  all_goals (unfold ahead packed; simp_all)
def due (a b : It) : Bool := decide (cmpP a.d b.d < 0) || (decide (cmpP a.d b.d = 0) && ahead a b)
set_option maxHeartbeats 1000000 in
theorem due_ret (x y : It) (ha : x.In) (hb : y.In) (w0 : World) : Ret Tryz.prog 118 #[iv x, iv y] w0 fun v w' => v = .bool (due x y) ∧ Only [] w0 w' := by
  have hs := St.nil w0
  refine ret_of_xc Tryz.func118 (by kernel_rfl) rfl Tryz.ntmps118 rfl rfl rfl ?_
  repeat' (first|refine vs (k:=?_)|(refine bx hs (k:=?_);intro b w hz hs)|refine qRg ?_|refine Nx.h ?_|fail)
  (with_reducible apply xs_call); exact rfl; exact rfl; exact pcmp_ret x.d y.d ha.2.2 hb.2.2 _
  rintro v w' ⟨rfl, ho⟩; replace hs := hs.call0 ho; repeat' (first|refine vs (k:=?_)|refine ps (k:=?_)|refine qRg ?_|refine Nx.h ?_|((with_reducible apply xs_guard);exact rfl;exact rfl;intro c hc;(fail_if_success have:true=c:=hc);(fail_if_success have:false=c:=hc);cases c)|fail)
  · first | refine rt (hq := ?_) | refine rt' (hq := ?_)
    refine ⟨?_, hs.only0 rfl⟩
    clear hs
    unfold due packed; simp_all
  · (with_reducible apply xs_call); exact rfl; exact rfl; exact ahead_ret x y ha hb _
    rintro v w' ⟨rfl, ho⟩; replace hs := hs.call0 ho; repeat' (first|refine vs (k:=?_)|refine Nx.h ?_|fail)
    first | refine rt (hq := ?_) | refine rt' (hq := ?_)
    refine ⟨?_, hs.only0 rfl⟩
    clear hs
    unfold due packed; simp_all
  · first | refine rt (hq := ?_) | refine rt' (hq := ?_)
    refine ⟨?_, hs.only0 rfl⟩
    clear hs
    unfold due packed; simp_all
end Go.Proofs.YtdkmhjiojealoaaGreatDoorX

namespace Go.Proofs.YtdkmhjiojealoaaGreatDoorX
open Go Go.RowKit
attribute [local irreducible] XS XC XA thenE blockE retE loopE loopS cutB cutN doneE SE
theorem nx64 {i m : Nat} (h : i < m) (hm : m ≤ 9223372036854775807) : IntKind.i64.wrap ((i : Int) + 1) = ((i + 1 : Nat) : Int) := by
  rw [wrap_i64]; omega
def PsAt (w : World) (v : Value) (ps : List Pt) : Prop := LsAt w 30 3 v (ps.map Pt.cells)
def ItsAt (w : World) (v : Value) (l : List It) : Prop := LsAt w 32 7 v (l.map It.cells)
def sinces (base : Int) (ps : List Pt) : List Int := ps.map fun p => sn p.t base
theorem minL_in {l : List Int} (h : ∀ d ∈ l, In64 d) : In64 (minL l) := by
  cases l with
  | nil => decide
  | cons d l =>
    have : ∀ (l : List Int) (a : Int), In64 a → (∀ d ∈ l, In64 d) → In64 (l.foldl (fun a b => if b < a then b else a) a) := by
      intro l
      induction l with
      | nil => intro a ha _; exact ha
      | cons b l ih =>
        intro a ha hl
        refine ih _ ?_ (fun d hd => hl d (List.mem_cons_of_mem _ hd))
        show In64 (if b < a then b else a)
        split
        · exact hl b List.mem_cons_self
        · exact ha
    exact this l d (h d List.mem_cons_self) fun x hx => h x (List.mem_cons_of_mem _ hx)
theorem maxL_in {l : List Int} (h : ∀ d ∈ l, In64 d) : In64 (maxL l) := by
  cases l with
  | nil => decide
  | cons d l =>
    have : ∀ (l : List Int) (a : Int), In64 a → (∀ d ∈ l, In64 d) → In64 (l.foldl (fun a b => if b > a then b else a) a) := by
      intro l
      induction l with
      | nil => intro a ha _; exact ha
      | cons b l ih =>
        intro a ha hl
        refine ih _ ?_ (fun d hd => hl d (List.mem_cons_of_mem _ hd))
        show In64 (if b > a then b else a)
        split
        · exact hl b List.mem_cons_self
        · exact ha
    exact this l d (h d List.mem_cons_self) fun x hx => h x (List.mem_cons_of_mem _ hx)
theorem take_next {α : Type} {l : List α} {i : Nat} (h : i < l.length) : l.take (i + 1) = l.take i ++ [l[i]] := by simp
set_option maxHeartbeats 2000000 in
theorem floors_ret (base : Int) (ps : List Pt) (sl : Value) (hm : ps.length ≤ 9223372036854775807) (w0 : World) (hP : PsAt w0 sl ps) :
    Ret Tryz.prog 99 #[.int .u64 base, sl] w0 fun v w' => v = .tuple #[.int .i64 (minL (sinces base ps)), .int .i64 (maxL (sinces base ps))] ∧ Only [] w0 w' := by
  obtain ⟨ad, cap, rfl, hD⟩ := hP
  rw [List.length_map] at *
  have hs := St.nil w0
  refine ret_of_xc Tryz.func99 (by kernel_rfl) rfl Tryz.ntmps99 rfl rfl rfl ?_
  repeat' (first|refine vs (k:=?_)|refine qRg ?_|refine Nx.h ?_|fail)
  refine xc_cutB (fun (_ : Unit) => [(4, .int .i64 (minL (sinces base ps))), (5, .int .i64 (maxL (sinces base ps)))]) (fun _ w => St w0 D0 [] w) ?_ ?_
  · refine xc_loopS (fun (i : Nat) => [(0, .int .u64 base), (4, .int .i64 (minL (sinces base (ps.take i)))), (5, .int .i64 (maxL (sinces base (ps.take i)))), (9, .slice ad ps.length cap), (10, .int .i64 (ps.length : Nat)), (11, .int .i64 (i : Nat))])
      (fun i w => i ≤ ps.length ∧ St w0 D0 [] w) (fun i => ps.length - i) 0 (by (repeat (first | exact agree_nil | (apply agree_cons; exact rfl)))) ⟨Nat.zero_le _, hs⟩ fun i env w ⟨hi, hs⟩ => ?_
    repeat' (first|refine vs (k:=?_)|refine qRg ?_|refine Nx.h ?_|(refine xc_if rfl (fun hc=>?_) (fun hc=>?_))|fail)
    · have hlt : i < ps.length := by omega
      obtain ⟨b, off, cs, fz, rfl, _, hb, hcs⟩ := hD (fun h => by simp at h; subst h; cases hlt)
      have hpk := hcs i (Pt.cells ps[i]) (by rw [List.getElem?_map, List.getElem?_eq_getElem hlt]; rfl)
      have hnx : sinces base (ps.take (i + 1)) = sinces base (ps.take i) ++ [sn ps[i].t base] := by rw [take_next hlt]; unfold sinces; rw [List.map_append]; rfl
      have h0 : sinces base (ps.take i) = [] ↔ i = 0 := by
        unfold sinces
        rw [List.map_eq_nil_iff, List.take_eq_nil_iff]
        constructor
        · rintro (h | h)
          · exact h
          · subst h; simp at hlt
        · exact .inl
      have emin := minL_snoc (sinces base (ps.take i)) (sn ps[i].t base)
      have emax := maxL_snoc (sinces base (ps.take i)) (sn ps[i].t base)
      rw [← hnx] at emin emax
      have ei := nx64 hlt hm
      generalize ps[i] = p at *
      refine ix (h0 := (by omega)) (h1 := (by omega)) (k := ?_)
      refine lhK ((hs.only0 rfl).block hb (by simp)) hpk (k := ?_)
      refine al hs (k := ?_); intro b7 w hz hs
      repeat' (first|refine vs (k:=?_)|(refine stA hs (k:=?_);intro w hs)|refine qRg ?_|refine Nx.h ?_|fail)
      (with_reducible apply xs_call); exact rfl; exact rfl; exact since_ret p.t base _
      rintro v w' ⟨rfl, ho⟩; replace hs := hs.call0 ho; repeat' (first|refine vs (k:=?_)|refine qRg ?_|refine Nx.h ?_|(refine xc_if rfl (fun hc=>?_) (fun hc=>?_))|fail)
      · have hi0 : i = 0 := by omega
        rw [if_pos (h0.2 hi0)] at emin emax
        have e1 : (if sn p.t base < sn p.t base then sn p.t base else sn p.t base) = minL (sinces base (ps.take (i + 1))) := by rw [emin]; split <;> rfl
        have e2 : (if sn p.t base > sn p.t base then sn p.t base else sn p.t base) = maxL (sinces base (ps.take (i + 1))) := by rw [emax]; split <;> rfl
        exact loopS_next (i + 1) (by omega) (by (repeat (first | exact agree_nil | (apply agree_cons; first | exact rfl | exact congrArg (Value.int .i64) e1 | exact congrArg (Value.int .i64) e2 | exact congrArg (Value.int .i64) ei)))) ⟨by omega, hs.forgetNew⟩
      · have hi0 : ¬ i = 0 := by omega
        rw [if_neg (fun h => hi0 (h0.1 h))] at emin emax
        exact loopS_next (i + 1) (by omega) (by (repeat (first | exact agree_nil | (apply agree_cons; first | exact rfl | exact congrArg (Value.int .i64) emin.symm | exact congrArg (Value.int .i64) emax.symm | exact congrArg (Value.int .i64) ei)))) ⟨by omega, hs.forgetNew⟩
    · have e : i = ps.length := by omega
      rw [e, List.take_length]
      exact cutB_exit () (by (repeat (first | exact agree_nil | (apply agree_cons; exact rfl)))) hs
  · rintro _ env w hs
    repeat' (first|refine vs (k:=?_)|refine qRg ?_|refine Nx.h ?_|fail)
    first | refine rt (hq := ?_) | refine rt' (hq := ?_)
    exact ⟨rfl, hs.only0 rfl⟩
def soonest (a : It) (l : List It) : It := l.foldl (fun a b => bif due b a then b else a) a
theorem soonest_snoc (a : It) (l : List It) (b : It) : soonest a (l ++ [b]) = bif due b (soonest a l) then b else soonest a l := by unfold soonest; rw [List.foldl_append]; rfl
theorem soonest_in {a : It} (ha : a.In) : ∀ {l : List It}, (∀ b ∈ l, b.In) → (soonest a l).In := by
  intro l
  unfold soonest
  induction l generalizing a with
  | nil => intro _; exact ha
  | cons b l ih =>
    intro hl
    refine ih ?_ (fun c hc => hl c (List.mem_cons_of_mem _ hc))
    show (bif due b a then b else a).In
    cases due b a
    · exact ha
    · exact hl b List.mem_cons_self
set_option maxHeartbeats 2000000 in
theorem soonest_ret (x : It) (l : List It) (sl : Value) (hx : x.In) (hl : ∀ b ∈ l, b.In) (hm : l.length ≤ 9223372036854775807) (w0 : World) (hP : ItsAt w0 sl l) :
    Ret Tryz.prog 95 #[iv x, sl] w0 fun v w' => v = iv (soonest x l) ∧ Only [] w0 w' := by
  obtain ⟨ad, cap, rfl, hD⟩ := hP
  rw [List.length_map] at *
  have hs := St.nil w0
  refine ret_of_xc Tryz.func95 (by kernel_rfl) rfl Tryz.ntmps95 rfl rfl rfl ?_
  refine xc_seq ?_
  refine xc_region ?_ ?_; exact rfl
  refine bx hs (k := ?_); intro b2 w hz hs
  refine al hs (k := ?_); intro b4 w hz hs
  repeat' (first|refine vs (k:=?_)|refine qRg ?_|refine Nx.h ?_|fail)
  refine xc_cutB (fun (_ : Unit) => [(2, .pointer (some ⟨b2, 0, none⟩)), (4, .pointer (some ⟨b4, 0, none⟩))]) (fun _ w => St w0 D0 [(b4, .cells It.zero.cells.toArray 32, true), (b2, .cells (soonest x l).cells.toArray 32, true)] w) ?_ ?_
  · refine xc_loopS (fun (i : Nat) => [(2, .pointer (some ⟨b2, 0, none⟩)), (4, .pointer (some ⟨b4, 0, none⟩)), (7, .slice ad l.length cap), (8, .int .i64 (l.length : Nat)), (9, .int .i64 (i : Nat))])
      (fun i w => i ≤ l.length ∧ St w0 D0 [(b4, .cells It.zero.cells.toArray 32, true), (b2, .cells (soonest x (l.take i)).cells.toArray 32, true)] w) (fun i => l.length - i) 0 (by (repeat (first | exact agree_nil | (apply agree_cons; exact rfl)))) ⟨Nat.zero_le _, hs⟩ fun i env w ⟨hi, hs⟩ => ?_
    repeat' (first|refine vs (k:=?_)|refine qRg ?_|refine Nx.h ?_|(refine xc_if rfl (fun hc=>?_) (fun hc=>?_))|fail)
    · have hlt : i < l.length := by omega
      obtain ⟨b, off, cs, fz, rfl, _, hb, hcs⟩ := hD (fun h => by simp at h; subst h; cases hlt)
      have hpk := hcs i (It.cells l[i]) (by rw [List.getElem?_map, List.getElem?_eq_getElem hlt]; rfl)
      have hsn := soonest_snoc x (l.take i) l[i]
      rw [← take_next hlt] at hsn
      have hin := hl l[i] (List.getElem_mem hlt)
      have hin2 := soonest_in hx (l := l.take i) (fun c hc => hl c (List.mem_of_mem_take hc))
      have ei := nx64 hlt hm
      generalize l[i] = q at *
      generalize soonest x (l.take i) = y at *
      refine ix (h0 := (by omega)) (h1 := (by omega)) (k := ?_)
      refine lhK ((hs.only0 rfl).block hb (by simp)) hpk (k := ?_)
      refine al hs (k := ?_); intro b6 w hz hs
      repeat' (first|refine vs (k:=?_)|(refine stA hs (k:=?_);intro w hs)|refine qRg ?_|refine Nx.h ?_|fail)
      (with_reducible apply xs_call); exact rfl; exact rfl; exact due_ret q y hin hin2 _
      rintro v w' ⟨rfl, ho⟩; replace hs := hs.call0 ho; repeat' (first|refine vs (k:=?_)|(refine stA hs (k:=?_);intro w hs)|refine qRg ?_|refine Nx.h ?_|(refine xc_cond rfl (fun hc=>?_) (fun hc=>?_))|fail)
      · rw [hc, cond_true] at hsn
        exact loopS_next (i + 1) (by omega) (by (repeat (first | exact agree_nil | (apply agree_cons; first | exact rfl | exact congrArg (Value.int .i64) ei)))) ⟨by omega, by rw [hsn]; exact hs.forgetNew⟩
      · rw [hc, cond_false] at hsn
        exact loopS_next (i + 1) (by omega) (by (repeat (first | exact agree_nil | (apply agree_cons; first | exact rfl | exact congrArg (Value.int .i64) ei)))) ⟨by omega, by rw [hsn]; exact hs.forgetNew⟩
    · have e : i = l.length := by omega
      rw [e, List.take_length] at hs
      exact cutB_exit () (by (repeat (first | exact agree_nil | (apply agree_cons; exact rfl)))) hs
  · rintro _ env w hs
    repeat' (first|refine vs (k:=?_)|(refine stA hs (k:=?_);intro w hs)|refine qRg ?_|refine Nx.h ?_|fail)
    first | refine rt (hq := ?_) | refine rt' (hq := ?_)
    exact ⟨rfl, hs.only0 rfl⟩
end Go.Proofs.YtdkmhjiojealoaaGreatDoorX

namespace Go.Proofs.YtdkmhjiojealoaaGreatDoorX
open Go Go.RowKit
def LsX (w : World) (k : Nat) (v : Value) (xs : List (List Value)) : Prop :=
  ∃ ad cap, v = .slice ad xs.length cap ∧ (xs ≠ [] → ∃ (b off : Nat) (cs : List Value) (E : TypeId) (fz : Nat × Nat), ad = some ⟨b, off, none⟩ ∧ w.heap[b]? = some (.cells cs.toArray E fz) ∧ ∀ (i : Nat) x, xs[i]? = some x → Pick cs (off + i * k) k x)
theorem LsX.only {w w' : World} {k : Nat} {v : Value} {xs : List (List Value)} (h : LsX w k v xs) (ho : Only [] w w') : LsX w' k v xs := by
  obtain ⟨ad, cap, rfl, h⟩ := h
  refine ⟨ad, cap, rfl, fun hn => ?_⟩
  obtain ⟨b, off, cs, E, fz, h1, h2, h3⟩ := h hn
  exact ⟨b, off, cs, E, fz, h1, ho.block h2 (by simp), h3⟩
theorem LsAt.x {w : World} {E k : Nat} {v : Value} {xs : List (List Value)} (h : LsAt w E k v xs) : LsX w k v xs := by
  obtain ⟨ad, cap, rfl, h⟩ := h
  refine ⟨ad, cap, rfl, fun hn => ?_⟩
  obtain ⟨b, off, cs, fz, h1, _, h2, h3⟩ := h hn
  exact ⟨b, off, cs, E, fz, h1, h2, h3⟩
end Go.Proofs.YtdkmhjiojealoaaGreatDoorX

namespace Go.Proofs.YtdkmhjiojealoaaGreatDoorX
open Go Go.RowKit Go.ChangeShapes Go.WideShapes Go.ChangeAt
def numOf : Value → Int
  | .int _ n => n
  | _ => 0
theorem cell_block {w : World} {a : Addr} {v : Value} (h : w.cell? a = some v) : ∃ cs E fz, w.heap[a.block]? = some (.cells cs E fz) ∧ a.spot = none ∧ cs[a.off]? = some v := by
  unfold World.cell? at h
  split at h
  · rename_i cs E fz hb
    split at h
    · cases h
    · rename_i hs
      exact ⟨cs, E, fz, hb, by simpa using hs, h⟩
  · cases h
theorem cell_of_block {w : World} {a : Addr} {v : Value} {cs : Array Value} {E : TypeId} {fz : Nat × Nat} (h : w.cell? a = some v) (hb : w.heap[a.block]? = some (.cells cs E fz)) : cs[a.off]? = some v := by
  obtain ⟨cs', E', fz', h1, _, h2⟩ := cell_block h
  rw [hb] at h1
  cases h1
  exact h2
theorem addr_add (b o k : Nat) : (⟨b, o, none⟩ : Addr).add k = ⟨b, o + k, none⟩ := by
  unfold Addr.add
  split <;> simp_all
end Go.Proofs.YtdkmhjiojealoaaGreatDoorX

namespace Go.Proofs.YtdkmhjiojealoaaGreatDoorX
open Go Go.RowKit Go.ChangeShapes Go.WideShapes Go.ChangeAt
theorem rng_i64 {x : Int} (h : Lit.wf (.int .i64 x) = true) : In64 x := by
  have h : IntKind.i64.min ≤ x ∧ x ≤ IntKind.i64.max := by simpa [Lit.wf] using h
  have e1 : IntKind.i64.min = -9223372036854775808 := rfl
  have e2 : IntKind.i64.max = 9223372036854775807 := rfl
  unfold In64; omega
theorem rng_u64 {x : Int} (h : Lit.wf (.int .u64 x) = true) : U64 x := by
  have h : IntKind.u64.min ≤ x ∧ x ≤ IntKind.u64.max := by simpa [Lit.wf] using h
  have e1 : IntKind.u64.min = 0 := rfl
  have e2 : IntKind.u64.max = 18446744073709551615 := rfl
  unfold U64; omega
theorem rng_u8 {x : Int} (h : Lit.wf (.int .u8 x) = true) : 0 ≤ x ∧ x < 256 := by
  have h : IntKind.u8.min ≤ x ∧ x ≤ IntKind.u8.max := by simpa [Lit.wf] using h
  have e1 : IntKind.u8.min = 0 := rfl
  have e2 : IntKind.u8.max = 255 := rfl
  omega
theorem rng_u32 {x : Int} (h : Lit.wf (.int .u32 x) = true) : 0 ≤ x ∧ x < 4294967296 := by
  have h : IntKind.u32.min ≤ x ∧ x ≤ IntKind.u32.max := by simpa [Lit.wf] using h
  have e1 : IntKind.u32.min = 0 := rfl
  have e2 : IntKind.u32.max = 4294967295 := rfl
  omega
theorem pick_at {cs : List Value} : ∀ {vs : List Value} {off m : Nat}, vs.length = m → (∀ j, j < m → cs[off + j]? = vs[j]?) → Pick cs off m vs
  | [], off, m, hm, h => by subst hm; exact .nil
  | v :: vs, off, m, hm, h => by
    subst hm
    refine .cons (by have := h 0 (by simp); simpa using this) (pick_at rfl fun j hj => ?_)
    have := h (j + 1) (by simp; omega)
    rw [show off + 1 + j = off + (j + 1) by omega]
    simpa using this
set_option maxRecDepth 100000 in
theorem open_rows {H : Type} {enc : TypeId × Value → H} {W : World} {r : Reach} {b0 base : Nat} {spare : Nat → Bool} {held : Bool} {v : Value} {d : DataW H} {p : List MemPlace} {α : Type} [Inhabited α] {t e k : Nat} {cells : α → List Value} {Q : α → Prop}
    (ht : Tryz.prog.underlying t = some (.slice e)) (ce : Tryz.prog.cellsOf e = k) (hk : 0 < k) (hlen : ∀ q, (cells q).length = k)
    (dec : ∀ (fuel : Nat) (cs : List Value) x, DataW.trod enc Tryz.prog W base spare held fuel e cs = some x → ∃ q, cs = cells q ∧ Q q)
    (hv : Value.okWide Tryz.prog W r b0 t v) (h : DataW.Trod enc Tryz.prog W base spare held t v d p) : ∃ xs : List α, LsX W k v (xs.map cells) ∧ ∀ a ∈ xs, Q a := by
  obtain ⟨a0, len, cap, rfl⟩ := okWide_slice ht hv
  obtain ⟨fuel, hf⟩ := h
  rcases Deep.open_slice ht hf with ⟨hc, hx⟩ | ⟨a, len', cap', m, n, D, Pl, hc, hb, hl, hm, hmm, hx, hall⟩
  · obtain ⟨rfl, rfl, rfl⟩ : a0 = none ∧ len = 0 ∧ cap = 0 := by injection hc with h1 h2; injection h1 with h1 h2 h3; exact ⟨h1, h2, h3⟩
    exact ⟨[], ⟨none, 0, rfl, fun h => absurd rfl h⟩, by simp⟩
  · obtain ⟨rfl, rfl, rfl⟩ : a0 = some a ∧ len = len' ∧ cap = cap' := by injection hc with h1 h2; injection h1 with h1 h2 h3; exact ⟨h1, h2, h3⟩
    have hlm : len ≤ m := by rw [hmm]; split <;> omega
    have each : ∀ i, i < len → ∃ q : α, W.cells? base (a.add (i * k)) k = some (cells q) ∧ Q q := fun i hi => by
      obtain ⟨cs', h1, h2⟩ := hall i (by omega)
      obtain ⟨q, rfl, hq⟩ := dec _ _ _ h2
      rw [ce] at h1
      exact ⟨q, h1, hq⟩
    obtain ⟨f, hfq⟩ := Deep.choose_lt each
    refine ⟨(List.range len).map f, ⟨some a, cap, by simp, fun hn => ?_⟩, fun x hx => by obtain ⟨i, hi, rfl⟩ := List.mem_map.1 hx; exact (hfq i (List.mem_range.1 hi)).2⟩
    have h0 : 0 < len := by
      rcases Nat.eq_zero_or_pos len with h0 | h0
      · subst h0; exact absurd rfl hn
      · exact h0
    have hcell : ∀ i, i < len → ∀ j, j < k → W.cell? ((a.add (i * k)).add j) = (cells (f i))[j]? := fun i hi => (World.cells?_some (hfq i hi).1).2.2
    have hc0 := hcell 0 h0 0 hk
    rw [List.getElem?_eq_getElem (by rw [hlen]; exact hk)] at hc0
    obtain ⟨cs, E, fz, hb', hsp, _⟩ := cell_block hc0
    obtain ⟨ab, ao, asp⟩ := a
    have e0 : ((⟨ab, ao, asp⟩ : Addr).add (0 * k)).add 0 = ⟨ab, ao, asp⟩ := by simp [Addr.add]
    rw [e0] at hb' hsp
    obtain rfl : asp = none := hsp
    refine ⟨ab, ao, cs.toList, E, fz, rfl, by simpa using hb', fun i x hx => ?_⟩
    have hi : i < len := by
      rcases Nat.lt_or_ge i len with h1 | h1
      · exact h1
      · rw [List.getElem?_eq_none (by simpa using h1)] at hx; cases hx
    have hx' : cells (f i) = x := by
      rw [List.getElem?_map, List.getElem?_map, List.getElem?_range hi] at hx
      exact Option.some.inj hx
    subst hx'
    refine pick_at (hlen _) fun j hj => ?_
    have g0 := hcell i hi j hj
    rw [addr_add, addr_add] at g0
    have g1 : (cells (f i))[j]? = some ((cells (f i))[j]'(by rw [hlen]; exact hj)) := List.getElem?_eq_getElem _
    rw [g1] at g0
    have := cell_of_block g0 hb'
    rw [g1]
    simpa [Nat.add_assoc] using this
end Go.Proofs.YtdkmhjiojealoaaGreatDoorX

namespace Go.Proofs.YtdkmhjiojealoaaGreatDoorX
structure OrdOn {α : Type} (lt : α → α → Bool) (S : α → Prop) : Prop where
  irr : ∀ a, S a → lt a a = false
  tr : ∀ a b c, S a → S b → S c → lt a b = true → lt b c = true → lt a c = true
  tri : ∀ a b, S a → S b → lt a b = false → lt b a = false → a = b
inductive RB (α : Type) where
  | nil
  | node (l : RB α) (x : α) (r : RB α) (c : Bool)
namespace RB
variable {α : Type}
def red : RB α → Bool
  | nil => false
  | node _ _ _ c => c
def left : RB α → RB α
  | nil => nil
  | node l _ _ _ => l
def right : RB α → RB α
  | nil => nil
  | node _ _ r _ => r
def list : RB α → List α
  | nil => []
  | node l x r _ => l.list ++ x :: r.list
def depth : RB α → Nat
  | nil => 0
  | node l _ r _ => 1 + max l.depth r.depth
def toLeft : RB α → RB α
  | node l x (node rl y rr _) c => node (node l x rl true) y rr c
  | t => t
def toRight : RB α → RB α
  | node (node ll y lr _) x r c => node ll y (node lr x r true) c
  | t => t
def flip : RB α → RB α
  | node (node a x b c1) y (node d z e c2) c => node (node a x b !c1) y (node d z e !c2) !c
  | t => t
def mend1 (t : RB α) : RB α := bif t.right.red && !t.left.red then toLeft t else t
def mend2 (t : RB α) : RB α := bif t.left.red && t.left.left.red then toRight t else t
def mend3 (t : RB α) : RB α := bif t.left.red && t.right.red then flip t else t
def mend (t : RB α) : RB α := mend3 (mend2 (mend1 t))
def ins (lt : α → α → Bool) : RB α → α → RB α
  | nil, x => node nil x nil true
  | node l y r c, x => bif lt x y then mend (node (ins lt l x) y r c) else mend (node l y (ins lt r x) c)
def blacken : RB α → RB α
  | nil => nil
  | node l x r _ => node l x r false
theorem left_node (l : RB α) (x : α) (r : RB α) (c : Bool) : (node l x r c).left = l := rfl
theorem right_node (l : RB α) (x : α) (r : RB α) (c : Bool) : (node l x r c).right = r := rfl
theorem red_node (l : RB α) (x : α) (r : RB α) (c : Bool) : (node l x r c).red = c := rfl
theorem list_toLeft : ∀ t : RB α, (toLeft t).list = t.list
  | nil => rfl
  | node l x nil c => rfl
  | node l x (node rl y rr _) c => by simp [toLeft, list]
theorem list_toRight : ∀ t : RB α, (toRight t).list = t.list
  | nil => rfl
  | node nil x r c => rfl
  | node (node ll y lr _) x r c => by simp [toRight, list]
theorem list_flip : ∀ t : RB α, (flip t).list = t.list
  | nil => rfl
  | node nil x r c => rfl
  | node (node a x b _) y nil c => rfl
  | node (node a x b _) y (node d z e _) c => by simp [flip, list]
theorem list_mend (t : RB α) : (mend t).list = t.list := by
  unfold mend mend3 mend2 mend1
  repeat' (cases (_ && _) <;> simp only [cond_true, cond_false])
  all_goals simp only [list_toLeft, list_toRight, list_flip]
theorem list_blacken : ∀ t : RB α, (blacken t).list = t.list
  | nil => rfl
  | node l x r c => rfl
def insL (lt : α → α → Bool) (x : α) : List α → List α
  | [] => [x]
  | y :: l => bif lt x y then x :: y :: l else y :: insL lt x l
theorem insL_left {lt : α → α → Bool} {x y : α} (h : lt x y = true) (R : List α) : ∀ L : List α, insL lt x (L ++ y :: R) = insL lt x L ++ y :: R
  | [] => by simp [insL, h]
  | z :: L => by
    simp only [List.cons_append, insL]
    cases lt x z <;> simp [insL_left h R L]
theorem insL_right {lt : α → α → Bool} {x : α} (R : List α) : ∀ L : List α, (∀ z ∈ L, lt x z = false) → insL lt x (L ++ R) = L ++ insL lt x R
  | [], _ => rfl
  | z :: L, h => by
    simp only [List.cons_append, insL, h z List.mem_cons_self, cond_false]
    rw [insL_right R L fun z hz => h z (List.mem_cons_of_mem _ hz)]
def Srt (lt : α → α → Bool) (l : List α) : Prop := l.Pairwise fun a b => lt a b = true
theorem srt_node {lt : α → α → Bool} {L R : List α} {y : α} (h : Srt lt (L ++ y :: R)) : Srt lt L ∧ Srt lt R ∧ (∀ z ∈ L, lt z y = true) ∧ (∀ z ∈ R, lt y z = true) ∧ ∀ a ∈ L, ∀ b ∈ R, lt a b = true := by
  unfold Srt at *
  rw [List.pairwise_append, List.pairwise_cons] at h
  obtain ⟨h1, ⟨h2, h3⟩, h4⟩ := h
  exact ⟨h1, h3, fun z hz => h4 z hz y List.mem_cons_self, h2, fun a ha b hb => h4 a ha b (List.mem_cons_of_mem _ hb)⟩
theorem asym {lt : α → α → Bool} {S : α → Prop} (ho : OrdOn lt S) {a b : α} (ha : S a) (hb : S b) (h : lt a b = true) : lt b a = false := by
  cases h2 : lt b a
  · rfl
  · have h3 := ho.tr a b a ha hb ha h h2
    rw [ho.irr a ha] at h3
    cases h3
theorem list_ins {lt : α → α → Bool} {S : α → Prop} (ho : OrdOn lt S) {x : α} (hx : S x) : ∀ t : RB α, Srt lt t.list → (∀ z ∈ t.list, S z) → (ins lt t x).list = insL lt x t.list
  | nil, _, _ => rfl
  | node l y r c, hs, hS => by
    obtain ⟨h1, h2, h3, h4, h5⟩ := srt_node hs
    simp only [list, List.mem_append, List.mem_cons] at hS
    have hl := list_ins ho hx l h1 fun z hz => hS z (.inl hz)
    have hr := list_ins ho hx r h2 fun z hz => hS z (.inr (.inr hz))
    have hy := hS y (.inr (.inl rfl))
    simp only [ins, list]
    cases hxy : lt x y
    · rw [cond_false, list_mend]
      simp only [list, hr]
      rw [insL_right _ l.list fun z hz => ?_]
      · simp [insL, hxy]
      · have hz' := hS z (.inl hz)
        cases hxz : lt x z
        · rfl
        · rw [ho.tr x z y hx hz' hy hxz (h3 z hz)] at hxy; cases hxy
    · rw [cond_true, list_mend]
      simp only [list, hl]
      rw [insL_left hxy]
/-! ### Balance -/
inductive Ok : RB α → Nat → Prop
  | nil : Ok nil 0
  | black {l r : RB α} {x : α} {h : Nat} : Ok l h → Ok r h → r.red = false → Ok (node l x r false) (h + 1)
  | red {l r : RB α} {x : α} {h : Nat} : Ok l h → Ok r h → l.red = false → r.red = false → Ok (node l x r true) h
inductive Alm : RB α → Nat → Prop
  | ok {t : RB α} {h : Nat} : Ok t h → Alm t h
  | rr {l r : RB α} {x : α} {h : Nat} : Ok l h → Ok r h → l.red = true → r.red = false → Alm (node l x r true) h
theorem Ok.blacken {t : RB α} {h : Nat} (k : Ok t h) : ∃ h', Ok (blacken t) h' := by
  cases k with
  | nil => exact ⟨_, .nil⟩
  | black a b c => exact ⟨_, .black a b c⟩
  | red a b c d => exact ⟨_, .black a b d⟩
theorem red_true {t : RB α} (h : t.red = true) : ∃ l x r, t = node l x r true := by
  cases t with
  | nil => cases h
  | node l x r c => exact ⟨l, x, r, by rw [show c = true from h]⟩
theorem Ok.inv_red {l r : RB α} {x : α} {h : Nat} (k : Ok (node l x r true) h) : Ok l h ∧ Ok r h ∧ l.red = false ∧ r.red = false := by
  cases k with
  | red a b c d => exact ⟨a, b, c, d⟩
theorem Ok.inv_black {l r : RB α} {x : α} {h : Nat} (k : Ok (node l x r false) h) : ∃ h', h = h' + 1 ∧ Ok l h' ∧ Ok r h' ∧ r.red = false := by
  cases k with
  | black a b c => exact ⟨_, rfl, a, b, c⟩
theorem red_left_false {t : RB α} {h : Nat} (k : Ok t h) (hr : t.red = true) : t.left.red = false := by
  obtain ⟨l, x, r, rfl⟩ := red_true hr
  exact k.inv_red.2.2.1
theorem mendL_black {l r : RB α} {y : α} {h : Nat} (hl : Alm l h) (hr : Ok r h) (h1 : r.red = false) : Ok (mend (node l y r false)) (h + 1) := by
  cases hl with
  | ok hl =>
    have hlr : (l.red && l.left.red) = false := by
      cases hc : l.red
      · rfl
      · rw [red_left_false hl hc]; rfl
    have : mend (node l y r false) = node l y r false := by
      simp [mend, mend1, mend2, mend3, left_node, right_node, red_node, h1, hlr]
    rw [this]
    exact .black hl hr h1
  | rr a b c d =>
    obtain ⟨ll, z, lr, rfl⟩ := red_true c
    obtain ⟨p1, p2, p3, p4⟩ := a.inv_red
    simp [mend, mend1, mend2, mend3, left_node, right_node, red_node, h1, toRight, flip]
    exact .red (.black p1 p2 p4) (.black b hr h1) rfl rfl
theorem mendL_red {l r : RB α} {y : α} {h : Nat} (hl : Ok l h) (hr : Ok r h) (h1 : r.red = false) : Alm (mend (node l y r true)) h := by
  have hlr : (l.red && l.left.red) = false := by
    cases hc : l.red
    · rfl
    · rw [red_left_false hl hc]; rfl
  have : mend (node l y r true) = node l y r true := by
    simp [mend, mend1, mend2, mend3, left_node, right_node, red_node, h1, hlr]
  rw [this]
  cases hc : l.red
  · exact .ok (.red hl hr hc h1)
  · exact .rr hl hr hc h1
theorem mendR_black {l r : RB α} {y : α} {h : Nat} (hl : Ok l h) (hr : Ok r h) : Ok (mend (node l y r false)) (h + 1) := by
  cases hc : r.red
  · exact mendL_black (.ok hl) hr hc
  · obtain ⟨rl, z, rr, rfl⟩ := red_true hc
    obtain ⟨p1, p2, p3, p4⟩ := hr.inv_red
    cases hd : l.red
    · have : mend (node l y (node rl z rr true) false) = node (node l y rl true) z rr false := by
        simp [mend, mend1, mend2, mend3, left_node, right_node, red_node, toLeft, hd, p4]
      rw [this]
      exact .black (.red hl p1 hd p3) p2 p4
    · obtain ⟨ll, u, lr, rfl⟩ := red_true hd
      obtain ⟨q1, q2, q3, q4⟩ := hl.inv_red
      have : mend (node (node ll u lr true) y (node rl z rr true) false) = node (node ll u lr false) y (node rl z rr false) true := by
        simp [mend, mend1, mend2, mend3, left_node, right_node, red_node, flip, q3]
      rw [this]
      exact .red (.black q1 q2 q4) (.black p1 p2 p4) rfl rfl
theorem mendR_red {l r : RB α} {y : α} {h : Nat} (hl : Ok l h) (hr : Ok r h) (h1 : l.red = false) : Alm (mend (node l y r true)) h := by
  cases hc : r.red
  · exact mendL_red hl hr hc
  · obtain ⟨rl, z, rr, rfl⟩ := red_true hc
    obtain ⟨p1, p2, p3, p4⟩ := hr.inv_red
    have : mend (node l y (node rl z rr true) true) = node (node l y rl true) z rr true := by
      simp [mend, mend1, mend2, mend3, left_node, right_node, red_node, toLeft, h1, p4]
    rw [this]
    exact .rr (.red hl p1 h1 p3) p2 rfl p4
theorem ok_ins (lt : α → α → Bool) (x : α) : ∀ {t : RB α} {h : Nat}, Ok t h → Alm (ins lt t x) h ∧ (t.red = false → Ok (ins lt t x) h) := by
  intro t h k
  induction k with
  | nil => exact ⟨.ok (.red .nil .nil rfl rfl), fun _ => .red .nil .nil rfl rfl⟩
  | @black l r y h a b c ia ib =>
    have key : Ok (ins lt (node l y r false) x) (h + 1) := by
      simp only [ins]
      cases lt x y
      · exact mendR_black a (ib.2 c)
      · exact mendL_black ia.1 b c
    exact ⟨.ok key, fun _ => key⟩
  | @red l r y h a b c d ia ib =>
    refine ⟨?_, fun h => by cases h⟩
    simp only [ins]
    cases lt x y
    · exact mendR_red a (ib.2 d) c
    · exact mendL_red (ia.2 c) b d
def Good (t : RB α) : Prop := t.red = false ∧ ∃ h, Ok t h
theorem Good.nil : Good (nil : RB α) := ⟨rfl, 0, .nil⟩
theorem blacken_red (t : RB α) : (blacken t).red = false := by cases t <;> rfl
theorem Good.ins {lt : α → α → Bool} {x : α} {t : RB α} (k : Good t) : Good (blacken (ins lt t x)) := by
  obtain ⟨hr, h, k⟩ := k
  exact ⟨blacken_red _, ((ok_ins lt x k).2 hr).blacken⟩
theorem ok_depth {t : RB α} {h : Nat} (k : Ok t h) : t.depth ≤ 2 * h + (if t.red then 1 else 0) ∧ 2 ^ h ≤ t.list.length + 1 := by
  induction k with
  | nil => simp [depth, list]
  | @black l r y h a b c ia ib =>
    obtain ⟨a1, a2⟩ := ia
    obtain ⟨b1, b2⟩ := ib
    refine ⟨?_, ?_⟩
    · simp only [depth, red]
      have : (if l.red = true then 1 else 0) ≤ 1 := by split <;> omega
      have : (if r.red = true then 1 else 0) ≤ 1 := by split <;> omega
      simp only [Bool.false_eq_true, if_false]
      omega
    · simp only [list, List.length_append, List.length_cons]
      rw [Nat.pow_succ]
      omega
  | @red l r y h a b c d ia ib =>
    obtain ⟨a1, a2⟩ := ia
    obtain ⟨b1, b2⟩ := ib
    rw [c] at a1
    rw [d] at b1
    refine ⟨?_, ?_⟩
    · simp only [depth, red]
      simp only [Bool.false_eq_true, if_false, if_true] at *
      omega
    · simp only [list, List.length_append, List.length_cons]
      omega
theorem Good.depth {t : RB α} (k : Good t) : 2 ^ ((t.depth + 1) / 2) ≤ t.list.length + 1 := by
  obtain ⟨hr, h, k⟩ := k
  obtain ⟨h1, h2⟩ := ok_depth k
  rw [hr] at h1
  simp only [Bool.false_eq_true, if_false] at h1
  exact Nat.le_trans (Nat.pow_le_pow_right (by decide) (show (t.depth + 1) / 2 ≤ h by omega)) h2
end RB
end Go.Proofs.YtdkmhjiojealoaaGreatDoorX

namespace Go.Proofs.YtdkmhjiojealoaaGreatDoorX
theorem sn_tri {a b c : Int} (h0 : -9223372036854775808 ≤ sn a b - sn c b) (h1 : sn a b - sn c b < 9223372036854775808) : sn a c = sn a b - sn c b := by unfold sn at *; omega
theorem sn_lat {b k : Int} (h : In64 k) : sn (lat b k) b = k := by unfold sn lat; unfold In64 at h; omega
theorem lat_sn {t b : Int} (h : U64 t) : lat b (sn t b) = t := by unfold sn lat; unfold U64 at h; omega
theorem lat_lat (b x y : Int) : lat (lat b x) y = lat b (x + y) := by unfold lat; omega
theorem lat_zero {b : Int} (h : U64 b) : lat b 0 = b := by unfold lat; unfold U64 at h; omega
theorem sn_self (b : Int) : sn b b = 0 := by unfold sn; omega
theorem sn_shift (x y d : Int) : sn (lat x d) (lat y d) = sn x y := by unfold sn lat; omega
theorem lat_comm (x d k : Int) : lat (lat x d) k = lat (lat x k) d := by unfold lat; omega
def Near (x y : Int) : Prop := -9223372036854775808 ≤ x - y ∧ x - y < 9223372036854775808
theorem sn_near {a c b : Int} (h : Near (sn a b) (sn c b)) : sn a c = sn a b - sn c b := sn_tri h.1 h.2
theorem mul_lt_cancel {c a b : Int} (hc : 0 < c) (h : c * a ≤ c * b) : a ≤ b := Int.le_of_mul_le_mul_left h hc
theorem fr_trans {a b c p q r : Int} (hp : 0 < p) (hq : 0 < q) (hr : 0 < r) (h1 : a * q ≤ b * p) (h2 : b * r ≤ c * q) : a * r ≤ c * p := by
  have k1 := Int.mul_le_mul_of_nonneg_right h1 (Int.le_of_lt hr)
  have k2 := Int.mul_le_mul_of_nonneg_right h2 (Int.le_of_lt hp)
  refine mul_lt_cancel hq ?_
  have e1 : q * (a * r) = a * q * r := by grind
  have e2 : b * p * r = b * r * p := by grind
  have e3 : c * q * p = q * (c * p) := by grind
  omega
theorem pright_all {p : Pt} (hp : p.In) (h : p.right = true) : 1 ≤ p.w ∧ p.w ≤ 1048576 ∧ 0 ≤ p.r ∧ p.r < p.w := by
  unfold Pt.right at h
  simp only [Bool.and_eq_true, decide_eq_true_eq] at h
  have := mayW_iff.1 h.1
  exact ⟨this.1, this.2, hp.2.1.1, h.2⟩
theorem cmpP_frac {p q : Pt} (hp : p.In) (hq : q.In) (h1 : p.right = true) (h2 : q.right = true) {b : Int} (hn : Near (sn q.t b) (sn p.t b)) : cmpP p q = cmpI (dist p b * q.w) (dist q b * p.w) := by
  have a1 := pright_all hp h1
  have a2 := pright_all hq h2
  unfold cmpP
  rw [sn_near hn]
  have d1 : dist p b = p.w * sn p.t b + p.r := rfl
  have d2 : dist q b = q.w * sn q.t b + q.r := rfl
  generalize sn p.t b = x at *
  generalize sn q.t b = y at *
  have e1 : dist p b * q.w = p.w * q.w * x + p.r * q.w := by rw [d1]; grind
  have e2 : dist q b * p.w = p.w * q.w * y + q.r * p.w := by rw [d2]; grind
  have m0 : 0 < p.w * q.w := Int.mul_pos (by omega) (by omega)
  have m1 : 0 ≤ p.r * q.w := Int.mul_nonneg (by omega) (by omega)
  have m2 : 0 ≤ q.r * p.w := Int.mul_nonneg (by omega) (by omega)
  have m3 : p.r * q.w < p.w * q.w := Int.mul_lt_mul_of_pos_right (by omega) (by omega)
  have m4 : q.r * p.w < p.w * q.w := by rw [Int.mul_comm p.w]; exact Int.mul_lt_mul_of_pos_right (by omega) (by omega)
  rw [e1, e2]
  generalize p.w * q.w = W at *
  generalize p.r * q.w = u at *
  generalize q.r * p.w = v at *
  rcases Int.lt_trichotomy x y with h | h | h
  · have : W * x + W ≤ W * y := by have := Int.mul_le_mul_of_nonneg_left (show x + 1 ≤ y by omega) (Int.le_of_lt m0); rwa [Int.mul_add, Int.mul_one] at this
    have c1 : cmpI 0 (y - x) = -1 := by unfold cmpI; rw [if_pos (by omega)]
    rw [c1, if_neg (by decide)]
    unfold cmpI; rw [if_pos (by omega)]
  · subst h
    have c1 : cmpI 0 (x - x) = 0 := by unfold cmpI; rw [if_neg (by omega), if_neg (by omega)]
    rw [if_pos c1]
    unfold cmpI
    by_cases k : u < v
    · rw [if_pos k, if_pos (by omega)]
    · rw [if_neg k, if_neg (show ¬ W * x + u < W * x + v by omega)]
      by_cases k' : v < u
      · rw [if_pos k', if_pos (by omega)]
      · rw [if_neg k', if_neg (by omega)]
  · have : W * y + W ≤ W * x := by have := Int.mul_le_mul_of_nonneg_left (show y + 1 ≤ x by omega) (Int.le_of_lt m0); rwa [Int.mul_add, Int.mul_one] at this
    have c1 : cmpI 0 (y - x) = 1 := by unfold cmpI; rw [if_neg (by omega), if_pos (by omega)]
    rw [c1, if_neg (by decide)]
    unfold cmpI; rw [if_neg (by omega), if_pos (by omega)]
theorem lex_ord {α : Type} {c : α → α → Int} {lt2 : α → α → Bool} {S : α → Prop} (le : α → α → Prop) (h1 : ∀ a b, S a → S b → (c a b < 0 ↔ ¬ le b a)) (h0 : ∀ a b, S a → S b → (c a b = 0 ↔ le a b ∧ le b a)) (tot : ∀ a b, S a → S b → le a b ∨ le b a)
    (tr : ∀ a b d, S a → S b → S d → le a b → le b d → le a d) (o : OrdOn lt2 S) : OrdOn (fun a b => decide (c a b < 0) || (decide (c a b = 0) && lt2 a b)) S where
  irr a ha := by
    have k1 := h1 a a ha ha
    have := tot a a ha ha
    simp only [o.irr a ha, Bool.and_false, Bool.or_false, decide_eq_false_iff_not, k1]
    rcases this with h | h <;> exact fun k => k h
  tr a b d ha hb hd k1 k2 := by
    simp only [Bool.or_eq_true, Bool.and_eq_true, decide_eq_true_eq] at k1 k2 ⊢
    rw [h1 a b ha hb, h0 a b ha hb] at k1
    rw [h1 b d hb hd, h0 b d hb hd] at k2
    rw [h1 a d ha hd, h0 a d ha hd]
    have tab := tot a b ha hb
    have tbd := tot b d hb hd
    have x1 := tr d a b hd ha hb
    have x2 := tr b d a hb hd ha
    have x3 := tr a b d ha hb hd
    have x4 := tr d b a hd hb ha
    rcases k1 with k1 | ⟨⟨k1, k1'⟩, k3⟩
    · left; intro hda
      rcases k2 with k2 | ⟨⟨k2, k2'⟩, k4⟩
      · rcases tbd with h | h
        · exact k1 (x2 h hda)
        · exact k2 h
      · exact k1 (x2 k2 hda)
    · rcases k2 with k2 | ⟨⟨k2, k2'⟩, k4⟩
      · left; intro hda
        exact k2 (x1 hda k1)
      · right; exact ⟨⟨x3 k1 k2, x4 k2' k1'⟩, o.tr a b d ha hb hd k3 k4⟩
  tri a b ha hb k1 k2 := by
    simp only [Bool.or_eq_false_iff, Bool.and_eq_false_iff, decide_eq_false_iff_not] at k1 k2
    rw [h1 a b ha hb, h0 a b ha hb] at k1
    rw [h1 b a hb ha, h0 b a hb ha] at k2
    have q1 : le b a := Classical.not_not.1 k1.1
    have q2 : le a b := Classical.not_not.1 k2.1
    rcases k1.2 with h | h
    · exact absurd ⟨q2, q1⟩ h
    · rcases k2.2 with h' | h'
      · exact absurd ⟨q1, q2⟩ h'
      · exact o.tri a b ha hb h h'
theorem OrdOn.congr {α : Type} {lt lt' : α → α → Bool} {S : α → Prop} (h : OrdOn lt S) (e : ∀ a b, S a → S b → lt' a b = lt a b) : OrdOn lt' S where
  irr a ha := by rw [e a a ha ha]; exact h.irr a ha
  tr a b c ha hb hc := by rw [e a b ha hb, e b c hb hc, e a c ha hc]; exact h.tr a b c ha hb hc
  tri a b ha hb := by rw [e a b ha hb, e b a hb ha]; exact h.tri a b ha hb
structure Win (b lo : Int) (x : It) : Prop where
  isin : x.In
  right : x.right = true
  low : lo ≤ sn x.p.t b
  high : sn x.p.t b + sn x.d.t x.p.t ≤ lo + 4611686018427387904
theorem iright_all {x : It} (hx : x.In) (h : x.right = true) : x.p.right = true ∧ x.d.right = true ∧ x.p.w = x.d.w ∧ 0 < x.id ∧ 0 ≤ sn x.d.t x.p.t ∧ sn x.d.t x.p.t ≤ 1152921504606846976 ∧ (1 ≤ x.p.w ∧ x.p.w ≤ 1048576 ∧ 0 ≤ x.p.r ∧ x.p.r < x.p.w) ∧ 0 ≤ x.d.r ∧ x.d.r < x.p.w := by
  unfold It.right at h
  simp only [Bool.and_eq_true, decide_eq_true_eq] at h
  obtain ⟨⟨⟨⟨⟨h1, h2⟩, h3⟩, h4⟩, h5⟩, h6⟩ := h
  have a1 := pright_all hx.1 h1
  have a2 := pright_all hx.2.2 h2
  exact ⟨h1, h2, h3, h4, h5, h6, a1, a2.2.2.1, by omega⟩
def Mid (lo : Int) : Prop := -4611686018427387904 ≤ lo ∧ lo ≤ 0
theorem Win.dead {b lo : Int} {x : It} (h : Win b lo x) (hm : Mid lo) : sn x.d.t b = sn x.p.t b + sn x.d.t x.p.t ∧ 0 ≤ sn x.d.t x.p.t ∧ sn x.p.t b ≤ lo + 4611686018427387904 := by
  obtain ⟨_, _, _, _, h5, h6, _⟩ := iright_all h.isin h.right
  have h1 := h.low
  have h2 := h.high
  unfold Mid at hm
  refine ⟨?_, h5, by omega⟩
  unfold sn at *; omega
theorem Win.move {b lo c : Int} {x : It} (h : Win b lo x) (hm : Mid lo) (h0 : lo ≤ sn c b) (h1 : sn c b ≤ lo + 4611686018427387904) : Win c (lo - sn c b) x ∧ sn x.p.t c = sn x.p.t b - sn c b := by
  have d := h.dead hm
  have k1 := h.low
  have k2 := h.high
  unfold Mid at hm
  have e : sn x.p.t c = sn x.p.t b - sn c b := sn_tri (by omega) (by omega)
  exact ⟨⟨h.isin, h.right, by omega, by omega⟩, e⟩
theorem dist_move {p : Pt} {b c k : Int} (e : sn p.t c = sn p.t b - k) : dist p c = dist p b - p.w * k := by
  unfold dist; rw [e, Int.mul_sub]; omega
def leP (b : Int) (p q : Pt) : Prop := dist p b * q.w ≤ dist q b * p.w
theorem cmp_le {p q : Pt} {b : Int} (e : cmpP p q = cmpI (dist p b * q.w) (dist q b * p.w)) : (cmpP p q < 0 ↔ ¬ leP b q p) ∧ (cmpP p q = 0 ↔ leP b p q ∧ leP b q p) := by
  rw [e]; unfold leP cmpI
  split
  · constructor <;> constructor <;> intro <;> first | omega | skip
  · split
    · constructor <;> constructor <;> intro <;> first | omega | skip
    · constructor <;> constructor <;> intro <;> first | omega | skip
theorem ahead_ord {b lo : Int} (hm : Mid lo) {S : It → Prop} (hS : ∀ x, S x → Win b lo x) (hi : ∀ x y, S x → S y → x.id = y.id → x = y) : OrdOn ahead S := by
  have hc : ∀ x y, S x → S y → cmpP x.p y.p = cmpI (dist x.p b * y.p.w) (dist y.p b * x.p.w) := fun x y hx hy => by
    have a1 := hS x hx
    have a2 := hS y hy
    have d1 := a1.dead hm
    have d2 := a2.dead hm
    have l1 := a1.low
    have l2 := a2.low
    exact cmpP_frac a1.isin.1 a2.isin.1 (iright_all a1.isin a1.right).1 (iright_all a2.isin a2.right).1 (by unfold Near; unfold Mid at hm; omega)
  have hw : ∀ x, S x → 0 < x.p.w := fun x hx => by have := (iright_all (hS x hx).isin (hS x hx).right).2.2.2.2.2.2.1; omega
  have oid : OrdOn (fun x y : It => decide (x.id < y.id)) S := by
    constructor
    · intro a _; simp
    · intro a b c _ _ _ h1 h2; simp only [decide_eq_true_eq] at *; omega
    · intro a b ha hb h1 h2; simp only [decide_eq_false_iff_not] at *; exact hi a b ha hb (by omega)
  exact lex_ord (c := fun x y : It => cmpP x.p y.p) (fun x y => leP b x.p y.p) (fun x y hx hy => (cmp_le (hc x y hx hy)).1) (fun x y hx hy => (cmp_le (hc x y hx hy)).2) (fun x y _ _ => Int.le_total _ _) (fun x y z hx hy hz h1 h2 => fr_trans (hw x hx) (hw y hy) (hw z hz) h1 h2) oid
theorem due_ord {b lo : Int} (hm : Mid lo) {S : It → Prop} (hS : ∀ x, S x → Win b lo x) (hi : ∀ x y, S x → S y → x.id = y.id → x = y) : OrdOn due S := by
  have hc : ∀ x y, S x → S y → cmpP x.d y.d = cmpI (dist x.d b * y.d.w) (dist y.d b * x.d.w) := fun x y hx hy => by
    have a1 := hS x hx
    have a2 := hS y hy
    have d1 := a1.dead hm
    have d2 := a2.dead hm
    have l1 := a1.low
    have l2 := a2.low
    have r1 := iright_all a1.isin a1.right
    have r2 := iright_all a2.isin a2.right
    have u1 := a1.high
    have u2 := a2.high
    exact cmpP_frac a1.isin.2.2 a2.isin.2.2 r1.2.1 r2.2.1 (by unfold Near; unfold Mid at hm; omega)
  have hw : ∀ x, S x → 0 < x.d.w := fun x hx => by
    have := iright_all (hS x hx).isin (hS x hx).right
    have h3 := this.2.2.1
    have h4 := this.2.2.2.2.2.2.1
    omega
  exact lex_ord (c := fun x y : It => cmpP x.d y.d) (fun x y => leP b x.d y.d) (fun x y hx hy => (cmp_le (hc x y hx hy)).1) (fun x y hx hy => (cmp_le (hc x y hx hy)).2) (fun x y _ _ => Int.le_total _ _) (fun x y z hx hy hz h1 h2 => fr_trans (hw x hx) (hw y hy) (hw z hz) h1 h2) (ahead_ord hm hS hi)
end Go.Proofs.YtdkmhjiojealoaaGreatDoorX

namespace Go.Proofs.YtdkmhjiojealoaaGreatDoorX
open Go Go.RowKit
attribute [local irreducible] XS XC XA thenE blockE retE loopE loopS cutB cutN doneE SE
structure Mn where
  b : Int
  a : Int
  w : Int
  n : Int
deriving DecidableEq
abbrev Mn.cells (m : Mn) : List Value := [.int .u64 m.b, .int .i64 (m.a / 18446744073709551616), .int .u64 (m.a % 18446744073709551616), .int .u64 m.w, .int .i64 m.n]
def mv (m : Mn) : Value := .agg #[.int .u64 m.b, .int .i64 (m.a / 18446744073709551616), .int .u64 (m.a % 18446744073709551616), .int .u64 m.w, .int .i64 m.n]
def Mn.In (m : Mn) : Prop := U64 m.b ∧ InW m.a ∧ U64 m.w ∧ In64 m.n
instance (m : Mn) : Decidable m.In := by unfold Mn.In; infer_instance
def Mn.zero : Mn := ⟨0, 0, 0, 0⟩
def Mn.right (m : Mn) : Bool := bif decide (m.n = 0) then decide (m.w = 0) && decide (m.a = 0) else decide (0 < m.n) && decide (m.n ≤ 32) && decide (m.n ≤ m.w) && decide (m.w ≤ m.n * 1048576)
theorem eqW0 (x : Int) : (cellEq (.int .i64 (x / 18446744073709551616)) (.int .i64 0) && cellEq (.int .u64 (x % 18446744073709551616)) (.int .u64 0)) = decide (x = 0) := by
  show ((x / 18446744073709551616 == 0) && (x % 18446744073709551616 == 0)) = _
  by_cases h : x = 0
  · subst h; decide
  · rw [decide_eq_false h]
    cases h1 : (x / 18446744073709551616 == 0)
    · rfl
    · cases h2 : (x % 18446744073709551616 == 0)
      · rfl
      · simp only [beq_iff_eq] at h1 h2
        omega
set_option maxHeartbeats 2000000 in
theorem mright_ret (m : Mn) (w0 : World) : Ret Tryz.prog 46 #[mv m] w0 fun v w' => v = .bool m.right ∧ Only [] w0 w' := by
  have hs := St.nil w0
  refine ret_of_xc Tryz.func46 (by kernel_rfl) rfl Tryz.ntmps46 rfl rfl rfl ?_
  repeat' (first|refine vs (k:=?_)|refine ps (k:=?_)|(refine bx hs (k:=?_);intro b w hz hs)|refine qRg ?_|refine Nx.h ?_|((with_reducible apply xs_guard);exact rfl;exact rfl;intro c hc;(fail_if_success have:true=c:=hc);(fail_if_success have:false=c:=hc);cases c)|(refine xc_if rfl (fun hc=>?_) (fun hc=>?_))|fail)
  all_goals (first | refine rt (hq := ?_) | refine rt' (hq := ?_))
  all_goals refine ⟨?_, hs.only0 rfl⟩
  all_goals clear hs
  all_goals unfold Mn.right packed
  all_goals try rw [eqW0]
  all_goals simp only [wrap_u64] at *
  · rw [decide_eq_true ‹m.n = 0›, cond_true]; simp only [beq_eq_false_iff_ne, ne_eq] at hc; rw [decide_eq_false hc]; rfl
  · rw [decide_eq_true ‹m.n = 0›, cond_true]; simp only [beq_iff_eq] at hc; rw [decide_eq_true hc]; rfl
  · rw [decide_eq_false ‹¬ m.n = 0›, cond_false, hc]; rfl
  · rw [decide_eq_false ‹¬ m.n = 0›, cond_false, ‹decide (0 < m.n) = true›, hc]; rfl
  · have h1 := of_decide_eq_true ‹decide (0 < m.n) = true›
    have h2 := of_decide_eq_true ‹decide (m.n ≤ 32) = true›
    rw [show m.n % 18446744073709551616 = m.n by omega] at hc
    rw [decide_eq_false ‹¬ m.n = 0›, cond_false, ‹decide (0 < m.n) = true›, ‹decide (m.n ≤ 32) = true›, hc]; rfl
  · have h1 := of_decide_eq_true ‹decide (0 < m.n) = true›
    have h2 := of_decide_eq_true ‹decide (m.n ≤ 32) = true›
    rw [show m.n % 18446744073709551616 = m.n by omega] at hc
    rw [decide_eq_false ‹¬ m.n = 0›, cond_false, ‹decide (0 < m.n) = true›, ‹decide (m.n ≤ 32) = true›, hc, show m.n % 18446744073709551616 * 1048576 % 18446744073709551616 = m.n * 1048576 by omega]; rfl
theorem mright_iff {m : Mn} : m.right = true ↔ (m.n = 0 ∧ m.w = 0 ∧ m.a = 0) ∨ (0 < m.n ∧ m.n ≤ 32 ∧ m.n ≤ m.w ∧ m.w ≤ m.n * 1048576) := by
  unfold Mn.right
  by_cases h : m.n = 0
  · rw [decide_eq_true h, cond_true]; simp; omega
  · rw [decide_eq_false h, cond_false]; simp; omega
def mnV (o : Option Mn) : Value := .tuple #[mv (o.getD .zero), .bool o.isSome]
theorem pright_iff {p : Pt} : p.right = true ↔ 1 ≤ p.w ∧ p.w ≤ 1048576 ∧ p.r < p.w := by
  unfold Pt.right; rw [Bool.and_eq_true, mayW_iff, decide_eq_true_eq, and_assoc]
def addM (m : Mn) (p : Pt) : Option Mn := if m.right = true ∧ p.right = true ∧ m.n ≠ 32 ∧ InW (m.a + dist p m.b) then some ⟨m.b, m.a + dist p m.b, m.w + p.w, m.n + 1⟩ else none
theorem addM_in {m : Mn} {p : Pt} {o : Mn} (hm : m.In) (h : addM m p = some o) : o.In := by
  unfold addM at h
  split at h
  · rename_i hc
    cases h
    obtain ⟨h1, h2, h3, h4⟩ := hc
    have h1 := mright_iff.1 h1
    have h2 := pright_iff.1 h2
    refine ⟨hm.1, h4, ?_, ?_⟩
    · show 0 ≤ m.w + p.w ∧ m.w + p.w < 18446744073709551616; omega
    · show -9223372036854775808 ≤ m.n + 1 ∧ m.n + 1 < 9223372036854775808; omega
  · cases h
set_option maxHeartbeats 2000000 in
theorem madd_ret (m : Mn) (p : Pt) (hm : m.In) (hp' : p.In) (w0 : World) : Ret Tryz.prog 72 #[mv m, pv p] w0 fun v w' => v = mnV (addM m p) ∧ Only [] w0 w' := by
  have hs := St.nil w0
  refine ret_of_xc Tryz.func72 (by kernel_rfl) rfl Tryz.ntmps72 rfl rfl rfl ?_
  repeat' (first|refine vs (k:=?_)|(refine al hs (k:=?_);intro b w hz hs)|(refine bx hs (k:=?_);intro b w hz hs)|refine qRg ?_|refine Nx.h ?_|fail)
  (with_reducible apply xs_call); exact rfl; exact rfl; exact mright_ret m _
  rintro v w' ⟨rfl, ho⟩; replace hs := hs.call0 ho; repeat' (first|refine vs (k:=?_)|refine ps (k:=?_)|(refine stA hs (k:=?_);intro w hs)|refine qRg ?_|refine Nx.h ?_|refine qCt ?_|((with_reducible apply xs_guard);exact rfl;exact rfl;intro c hc;(fail_if_success have:true=c:=hc);(fail_if_success have:false=c:=hc);cases c)|fail)
  · (with_reducible apply xs_call); exact rfl; exact rfl; exact pright_ret p _
    rintro v w' ⟨rfl, ho⟩; replace hs := hs.call0 ho; repeat' (first|refine vs (k:=?_)|refine ps (k:=?_)|(refine stA hs (k:=?_);intro w hs)|refine qRg ?_|refine Nx.h ?_|refine qCt ?_|((with_reducible apply xs_guard);exact rfl;exact rfl;intro c hc;(fail_if_success have:true=c:=hc);(fail_if_success have:false=c:=hc);cases c)|(refine xc_if rfl (fun hc=>?_) (fun hc=>?_))|fail)
    · first | refine rt (hq := ?_) | refine rt' (hq := ?_)
      refine ⟨?_, hs.only0 rfl⟩
      have : addM m p = none := by unfold addM; rw [if_neg (fun h => h.2.2.1 ‹_›)]
      rw [this]; rfl
    · refine dr [] hs (k := ?_); intro hX w hs
      refine tk 0 hX (k := ?_)
      refine tk 1 hX (k := ?_)
      refine tk 2 hX (k := ?_)
      refine tk 3 hX (k := ?_)
      refine tk 4 hX (k := ?_)
      refine pd0 10 6 hs (k := ?_); intro f X w hp; have hs := hp.st
      apply xa_pend 5 10 (f := f) (X := X) hX hp; exact rfl; exact rfl; (first | (apply makes_alloc tabOk; exact rfl) | (apply makes_slice tabOk; exact rfl; exact rfl; exact rfl; exact rfl; exact rfl; (intro X; ((repeat (first | exact Bld.nil | (apply Bld.one; exact rfl; (conv => lhs; whnf); exact rfl; (repeat (first | exact PutL.nil | apply PutL.skip | apply PutL.cons))) | (apply Bld.agg; exact rfl; exact rfl; exact rfl; (repeat (first | exact PutL.nil | apply PutL.skip | apply PutL.cons))))))))); kernel_rfl; kernel_rfl; kernel_rfl; kernel_rfl; (intro X Y; (repeat (first | exact pgg_base | refine pgg_step ?_ (by exact rfl)))); (intro w' hs; ((first | exact se_hold hs.hold | exact se_hold (hold_sim hs.hold rfl) | exact se_hold (hold_sim hs.hold.tail rfl) | exact se_hold (hR hs rfl) | exact se_hold hs.hold.tail | exact se_hold hs.hold.tail.tail | exact se_hold hs.hold.tail.tail.tail | exact se_done rfl))); intro f X w hp; have hs := hp.st
      (with_reducible apply xs_call); exact rfl; exact rfl; exact dist_ret p m.b hp' _
      rintro v w' ⟨rfl, ho⟩; replace hp := hp.only ho; replace hs := hp.st; repeat' (first|refine Nx.h ?_|fail)
      refine dn (k := ?_)
      apply xa_pend 6 10 (f := f) (X := X) hX hp; exact rfl; exact rfl; (first | (apply makes_alloc tabOk; exact rfl) | (apply makes_slice tabOk; exact rfl; exact rfl; exact rfl; exact rfl; exact rfl; (intro X; ((repeat (first | exact Bld.nil | (apply Bld.one; exact rfl; (conv => lhs; whnf); exact rfl; (repeat (first | exact PutL.nil | apply PutL.skip | apply PutL.cons))) | (apply Bld.agg; exact rfl; exact rfl; exact rfl; (repeat (first | exact PutL.nil | apply PutL.skip | apply PutL.cons))))))))); kernel_rfl; kernel_rfl; kernel_rfl; kernel_rfl; (intro X Y; (repeat (first | exact pgg_base | refine pgg_step ?_ (by exact rfl)))); (intro w' hs; ((first | exact se_hold hs.hold | exact se_hold (hold_sim hs.hold rfl) | exact se_hold (hold_sim hs.hold.tail rfl) | exact se_hold (hR hs rfl) | exact se_hold hs.hold.tail | exact se_hold hs.hold.tail.tail | exact se_hold hs.hold.tail.tail.tail | exact se_done rfl))); intro f X w hp; have hs := hp.st
      (with_reducible apply xs_call); exact rfl; exact rfl; exact add_t m.a (dist p m.b) hm.2.1 (dist_in hp' _) _
      rintro v w' ⟨rfl, ho⟩; replace hp := hp.only ho; replace hs := hp.st; repeat' (first|refine Nx.h ?_|fail)
      refine dn (k := ?_)
      refine tk 7 hX (hc := by cases f <;> kernel_rfl) (k := ?_)
      refine tk 8 hX (hc := by cases f <;> kernel_rfl) (k := ?_)
      refine tk 9 hX (hc := by cases f <;> kernel_rfl) (k := ?_)
      apply xa_pendE 10 (f := f) (X := X) hX hp; exact rfl; (first | (apply makes_alloc tabOk; exact rfl) | (apply makes_slice tabOk; exact rfl; exact rfl; exact rfl; exact rfl; exact rfl; (intro X; ((repeat (first | exact Bld.nil | (apply Bld.one; exact rfl; (conv => lhs; whnf); exact rfl; (repeat (first | exact PutL.nil | apply PutL.skip | apply PutL.cons))) | (apply Bld.agg; exact rfl; exact rfl; exact rfl; (repeat (first | exact PutL.nil | apply PutL.skip | apply PutL.cons))))))))); kernel_rfl; kernel_rfl; (intro X Y; (repeat (first | exact pgg_base | refine pgg_step ?_ (by exact rfl)))); (intro w' hs; ((first | exact se_hold hs.hold | exact se_hold (hold_sim hs.hold rfl) | exact se_hold (hold_sim hs.hold.tail rfl) | exact se_hold (hR hs rfl) | exact se_hold hs.hold.tail | exact se_hold hs.hold.tail.tail | exact se_hold hs.hold.tail.tail.tail | exact se_done rfl))); intro b w hI hs
      refine dt 11 hX (k := ?_)
      repeat' (first|(refine stA hs (k:=?_);intro w hs)|refine Nx.h ?_|fail)
      refine dn (k := ?_)
      refine tk 12 hX (k := ?_)
      refine en (k := ?_)
      repeat' (first|refine vs (k:=?_)|(refine stA hs (k:=?_);intro w hs)|refine qRg ?_|refine Nx.h ?_|(refine xc_cond rfl (fun hc=>?_) (fun hc=>?_))|fail)
      · first | refine rt (hq := ?_) | refine rt' (hq := ?_)
        refine ⟨?_, hs.only0 rfl⟩
        have h4 : ¬ InW (m.a + dist p m.b) := by simpa using hc
        have : addM m p = none := by unfold addM; rw [if_neg (fun h => h4 h.2.2.2)]
        rw [this]; rfl
      · first | refine rt (hq := ?_) | refine rt' (hq := ?_)
        refine ⟨?_, hs.only0 rfl⟩
        have h4 : InW (m.a + dist p m.b) := by simpa using hc
        have h1 : m.right = true := by simpa using ‹(!m.right) = false›
        have h2 : p.right = true := by simpa using ‹(!p.right) = false›
        have : addM m p = some ⟨m.b, m.a + dist p m.b, m.w + p.w, m.n + 1⟩ := by unfold addM; rw [if_pos ⟨h1, h2, ‹_›, h4⟩]
        have h5 := mright_iff.1 h1
        have h6 := pright_iff.1 h2
        have e1 : tot (m.a + dist p m.b) = m.a + dist p m.b := if_pos h4
        have e2 : IntKind.u64.wrap (m.w + IntKind.u64.wrap p.w) = m.w + p.w := by simp only [wrap_u64]; omega
        have e3 : IntKind.i64.wrap (m.n + 1) = m.n + 1 := by simp only [wrap_i64]; omega
        rw [this, e1, e2, e3]; rfl
    · first | refine rt (hq := ?_) | refine rt' (hq := ?_)
      refine ⟨?_, hs.only0 rfl⟩
      have h2 : p.right = false := by simpa using hc
      have : addM m p = none := by unfold addM; rw [if_neg (fun h => by rw [h2] at h; cases h.2.1)]
      rw [this]; rfl
  · first | refine rt (hq := ?_) | refine rt' (hq := ?_)
    refine ⟨?_, hs.only0 rfl⟩
    have h2 : m.right = false := by simpa using hc
    have : addM m p = none := by unfold addM; rw [if_neg (fun h => by rw [h2] at h; cases h.1)]
    rw [this]; rfl
end Go.Proofs.YtdkmhjiojealoaaGreatDoorX
