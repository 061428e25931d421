/- Layer 1, ref01: Text. -/
import Derived.Test.YtkkelelmdbemmaaDoorStr5
import Derived.Test.YtkkelelmdbemmaaDoorBig4
import Derived.Laws.IdiomStrings
set_option linter.unusedVariables false
set_option linter.unusedSimpArgs false
set_option maxRecDepth 100000
namespace Go.Proofs.YtkkelelmdbemmaaDoorX
open Go Go.RowKit Go.Lib
attribute [local irreducible] XS XC XA thenE blockE retE loopE loopS cutB cutN doneE SE
section
variable {env : Env} {w : World} {d : Option Nat} {ty : Nat} {pos : String} {aft : Array Edge} {g : Option (Nat × Bool)}
/-- string(b), one byte of one's own. -/
theorem r_strOne {x : Operand} {b cap : Nat} {n : Int} {c : UInt8} {E : TypeId} {fr : Nat × Nat} (hx : ev env x = .slice (some ⟨b, 0, none⟩) 1 cap) (hb : w.heap[b]? = some (.cells [Value.int .u8 n].toArray E fr)) (hn : n = (c.toNat : Nat)) :
    (execOp (ev env) (⟨d, .convert 54 9 x, ty, pos, aft, g⟩ : Oper)).run Tryd.prog w = .ok (.value (strV [c])) w := by
  subst hn
  have h := run_convert_bytes_back (P := Tryd.prog) w 54 9 5 ⟨b, 0, none⟩ cap [c] (by kernel_rfl) (by kernel_rfl) (by kernel_rfl) (fun j hj => by
    obtain rfl : j = 0 := by simp at hj; omega
    simp [World.cell?, Addr.add, hb])
  simp only [List.length_singleton] at h
  simp [execOp, hx, Sem.run_bind, h]
end
theorem byte_of {n : Int} (h0 : 0 ≤ n) (h1 : n < 10) : IntKind.u8.wrap (IntKind.i64.wrap (48 + n)) = ((UInt8.ofNat (48 + n.toNat)).toNat : Nat) := by
  have e1 : (UInt8.ofNat (48 + n.toNat)).toNat = 48 + n.toNat := by simp; omega
  rw [e1, i64_small (by omega) (by omega)]
  simp only [IntKind.wrap, IntKind.signed, IntKind.bits]
  simp
  omega
theorem byte_val {n : Int} (h0 : 0 ≤ n) (h1 : n < 10) : (UInt8.ofNat (48 + n.toNat)).toNat = 48 + n.toNat := by simp; omega
/-- Digits of the first limbs, and of the limb that is on its way. -/
structure Lim (ds : List Int) (i j : Nat) (c : Int) (s : List UInt8) : Prop where
  dg : DigS s
  len : s.length = 4 * i + j
  cur : c = dig ds i / 10 ^ j
  val : (valS s : Int) = valD (ds.take i) + 10000 ^ i * (dig ds i % 10 ^ j)
theorem pow4 (i j : Nat) : ((10 ^ (4 * i + j) : Nat) : Int) = 10000 ^ i * 10 ^ j := by
  rw [Nat.pow_add, Nat.pow_mul]
  simp
theorem emod_mul' (a : Int) (j : Nat) (h : 0 ≤ a) : a % (10 ^ j * 10) = a % 10 ^ j + 10 ^ j * (a / 10 ^ j % 10) := by
  obtain ⟨n, rfl⟩ := Int.eq_ofNat_of_zero_le h
  have := Nat.mod_mul (a := 10 ^ j) (b := 10) (x := n)
  have e : ((10 ^ j : Nat) : Int) = (10 : Int) ^ j := by simp
  rw [← e]
  have h2 : (((n % (10 ^ j * 10) : Nat)) : Int) = ((n % 10 ^ j + 10 ^ j * (n / 10 ^ j % 10) : Nat) : Int) := by rw [this]
  push_cast at h2
  push_cast
  exact h2
theorem trimZ_len : ∀ l : List UInt8, (trimZ l).length ≤ l.length
  | [] => Nat.le_refl _
  | [_] => Nat.le_refl _
  | a :: b :: l => by
    by_cases e : a = 48
    · subst e
      have := trimZ_len (b :: l)
      rw [show trimZ (48 :: b :: l) = trimZ (b :: l) by simp [trimZ]]
      simp only [List.length_cons] at *
      omega
    · rw [show trimZ (a :: b :: l) = a :: b :: l by simp [trimZ, e]]
      exact Nat.le_refl _
theorem trim_ne {l : List UInt8} (h : trimZ l = []) (hd : DigS l) : l = [] := by
  rcases Decidable.em (l = []) with e | e
  · exact e
  · rw [trimZ_digs l e hd] at h
    exact absurd h (dec_ne _)
theorem lim_next {ds : List Int} {i j : Nat} {c : Int} {s : List UInt8} (h : Lim ds i j c s) (hd : 0 ≤ dig ds i) : Lim ds i (j + 1) (c / 10) (UInt8.ofNat (48 + (c % 10).toNat) :: s) := by
  have h0 : 0 ≤ c % 10 := Int.emod_nonneg _ (by decide)
  have h1 : c % 10 < 10 := Int.emod_lt_of_pos _ (by decide)
  refine ⟨digS_cons (by rw [byte_val h0 h1]; omega) h.dg, by simp [h.len]; omega, ?_, ?_⟩
  · rw [h.cur, Int.pow_succ, Int.ediv_ediv_of_nonneg (Int.le_of_lt (Int.pow_pos (by decide)))]
  · rw [valS_cons, byte_val h0 h1, h.len]
    have e1 : 48 + (c % 10).toNat - 48 = (c % 10).toNat := by omega
    rw [e1, Int.natCast_add, Int.natCast_mul, pow4, h.val, Int.toNat_of_nonneg h0, Int.pow_succ]
    have e2 : dig ds i % (10 ^ j * 10) = dig ds i % 10 ^ j + 10 ^ j * (dig ds i / 10 ^ j % 10) := emod_mul' _ _ hd
    rw [e2, ← h.cur]
    grind
theorem lim_limb {ds : List Int} {i : Nat} {c : Int} {s : List UInt8} (h : Lim ds i 4 c s) (h0 : 0 ≤ dig ds i) (h1 : dig ds i < 10000) : DigS s ∧ s.length = 4 * (i + 1) ∧ (valS s : Int) = valD (ds.take (i + 1)) := by
  refine ⟨h.dg, by rw [h.len]; omega, ?_⟩
  rw [h.val, valD_take]
  have : dig ds i % 10 ^ 4 = dig ds i := Int.emod_eq_of_lt h0 (by simpa using h1)
  rw [this]
theorem lim_start {ds : List Int} {i : Nat} {s : List UInt8} (h1 : DigS s) (h2 : s.length = 4 * i) (h3 : (valS s : Int) = valD (ds.take i)) : Lim ds i 0 (dig ds i) s :=
  ⟨h1, by omega, by simp, by rw [h3]; simp⟩
set_option maxHeartbeats 2000000 in
theorem bigText_ret (v : Value) (x : Int) (w0 : World) (hB : BigAt w0 v x) (hx : InB x) : Ret Tryd.prog 12 #[v] w0 fun v w' => v = strV (textOf x) ∧ Only [] w0 w' := by
  obtain ⟨neg, sl, ds, rfl, hD, hok, ht, hz0, rfl⟩ := hB
  have hlen := len_in hok ht hx
  obtain ⟨ad, cap, rfl, hD'⟩ := hD
  have hs := St.nil w0
  refine ret_of_xc Tryd.func12 (by kernel_rfl) rfl Tryd.ntmps12 rfl rfl rfl ?_
  repeat' (first | refine vs (k := ?_) | refine ps (k := ?_) | (refine st hs (k := ?_); intro w hs) | (refine stA hs (k := ?_); intro w hs) | (refine al hs (k := ?_); intro b w hz hs) | (refine bx hs (k := ?_); intro b w hz hs) | (refine bs hs (k := ?_); intro b w hz hs) | refine XS.nil ?_ | refine then_of ?_ | refine xc_seq ?_ | (refine xc_region ?_ ?_; exact rfl) | refine xc_block ?_ | refine block_normal ?_ | refine xc_ret ?_ | refine then_ret ?_ | refine block_ret ?_ | refine xc_skip ?_ | refine xc_exit ?_ | refine then_exit ?_ | refine loopS_exit ?_ | refine loopS_ret ?_ | refine cutB_ret ?_ | refine cutN_ret ?_ | refine cutN_exit ?_ | refine block_exit ?_ | (refine block_other ?_ ?_; exact rfl) | (refine xc_true ?_ ?_; exact rfl) | (refine xc_false ?_ ?_; exact rfl) | ((with_reducible apply xs_guard); exact rfl; exact rfl; intro c hc; (fail_if_success (have : true = c := hc)); (fail_if_success (have : false = c := hc)); cases c) | (refine xc_if rfl (fun hc => ?_) (fun hc => ?_)) | (refine xc_cond rfl (fun hc => ?_) (fun hc => ?_)))
  refine xc_cutB (fun s : List UInt8 => [(1, .pointer (some ⟨b, 0, none⟩)), (3, strV s)]) (fun s w => (DigS s ∧ s.length = 4 * ds.length ∧ (valS s : Int) = valD ds) ∧ St w0 D0 [(b, .cells [Value.bool neg, .slice ad ds.length cap].toArray 31, true)] w) ?_ ?_
  · refine xc_loopS (fun q : Nat × List UInt8 => [(1, .pointer (some ⟨b, 0, none⟩)), (3, strV q.2), (8, .slice ad ds.length cap), (9, .int .i64 (ds.length : Nat)), (10, .int .i64 (q.1 : Nat))]) (fun q w => (q.1 ≤ ds.length ∧ DigS q.2 ∧ q.2.length = 4 * q.1 ∧ (valS q.2 : Int) = valD (ds.take q.1)) ∧ St w0 D0 [(b, .cells [Value.bool neg, .slice ad ds.length cap].toArray 31, true)] w) (fun q => ds.length - q.1) (0, []) (by (repeat (first | exact agree_nil | (apply agree_cons; exact rfl)))) ⟨⟨by omega, by simp [DigS], rfl, rfl⟩, hs⟩ fun q env w ⟨hq, hs⟩ => ?_
    obtain ⟨i, s⟩ := q
    obtain ⟨hi, s1, s2, s3⟩ := hq
    simp only at hi s1 s2 s3 hs ⊢
    repeat' (first | refine vs (k := ?_) | refine ps (k := ?_) | (refine st hs (k := ?_); intro w hs) | (refine stA hs (k := ?_); intro w hs) | (refine al hs (k := ?_); intro b w hz hs) | (refine bx hs (k := ?_); intro b w hz hs) | (refine bs hs (k := ?_); intro b w hz hs) | refine XS.nil ?_ | refine then_of ?_ | refine xc_seq ?_ | (refine xc_region ?_ ?_; exact rfl) | refine xc_block ?_ | refine block_normal ?_ | refine xc_ret ?_ | refine then_ret ?_ | refine block_ret ?_ | refine xc_skip ?_ | refine xc_exit ?_ | refine then_exit ?_ | refine loopS_exit ?_ | refine loopS_ret ?_ | refine cutB_ret ?_ | refine cutN_ret ?_ | refine cutN_exit ?_ | refine block_exit ?_ | (refine block_other ?_ ?_; exact rfl) | (refine xc_true ?_ ?_; exact rfl) | (refine xc_false ?_ ?_; exact rfl) | ((with_reducible apply xs_guard); exact rfl; exact rfl; intro c hc; (fail_if_success (have : true = c := hc)); (fail_if_success (have : false = c := hc)); cases c) | (refine xc_if rfl (fun hc => ?_) (fun hc => ?_)) | (refine xc_cond rfl (fun hc => ?_) (fun hc => ?_)))
    · have hil : i < ds.length := by omega
      obtain ⟨b', off, cs, fz, rfl, g1, g2, g3⟩ := hD' (by intro e; subst e; simp at hil)
      obtain ⟨d0, d1⟩ := dig_rng hok i
      refine ix (h0 := (by omega)) (h1 := (by omega)) (k := ?_)
      refine lh (cs := cs) (off := off + ((i : Nat) : Int).toNat * 1) ((hs.only0 rfl).block g2 (by simp)) (v := .int .i64 (dig ds i)) (by simpa using g3 i _ (dig_get hil)) (k := ?_)
      repeat' (first | refine vs (k := ?_) | refine ps (k := ?_) | (refine st hs (k := ?_); intro w hs) | (refine stA hs (k := ?_); intro w hs) | (refine al hs (k := ?_); intro b w hz hs) | (refine bx hs (k := ?_); intro b w hz hs) | (refine bs hs (k := ?_); intro b w hz hs) | refine XS.nil ?_ | refine then_of ?_ | refine xc_seq ?_ | (refine xc_region ?_ ?_; exact rfl) | refine xc_block ?_ | refine block_normal ?_ | refine xc_ret ?_ | refine then_ret ?_ | refine block_ret ?_ | refine xc_skip ?_ | refine xc_exit ?_ | refine then_exit ?_ | refine loopS_exit ?_ | refine loopS_ret ?_ | refine cutB_ret ?_ | refine cutN_ret ?_ | refine cutN_exit ?_ | refine block_exit ?_ | (refine block_other ?_ ?_; exact rfl) | (refine xc_true ?_ ?_; exact rfl) | (refine xc_false ?_ ?_; exact rfl) | ((with_reducible apply xs_guard); exact rfl; exact rfl; intro c hc; (fail_if_success (have : true = c := hc)); (fail_if_success (have : false = c := hc)); cases c) | (refine xc_if rfl (fun hc => ?_) (fun hc => ?_)) | (refine xc_cond rfl (fun hc => ?_) (fun hc => ?_)))
      refine xc_cutB (fun s : List UInt8 => [(1, .pointer (some ⟨b, 0, none⟩)), (3, strV s), (8, .slice (some ⟨b', off, none⟩) ds.length cap), (9, .int .i64 (ds.length : Nat)), (10, .int .i64 (i : Nat))]) (fun s w => (∃ c, Lim ds i 4 c s) ∧ St w0 D0 [(b, .cells [Value.bool neg, .slice (some ⟨b', off, none⟩) ds.length cap].toArray 31, true)] w) ?_ ?_
      · refine xc_loopS (fun q : Nat × Int × List UInt8 => [(1, .pointer (some ⟨b, 0, none⟩)), (3, strV q.2.2), (5, .int .i64 q.2.1), (6, .int .i64 (q.1 : Nat)), (8, .slice (some ⟨b', off, none⟩) ds.length cap), (9, .int .i64 (ds.length : Nat)), (10, .int .i64 (i : Nat))]) (fun q w => (q.1 ≤ 4 ∧ Lim ds i q.1 q.2.1 q.2.2) ∧ St w0 D0 [(b, .cells [Value.bool neg, .slice (some ⟨b', off, none⟩) ds.length cap].toArray 31, true)] w) (fun q => 4 - q.1) (0, dig ds i, s) (by (repeat (first | exact agree_nil | (apply agree_cons; exact rfl)))) ⟨⟨by omega, lim_start s1 s2 s3⟩, hs⟩ fun q env w ⟨hq, hs⟩ => ?_
        obtain ⟨j, c, s⟩ := q
        obtain ⟨hj, hl⟩ := hq
        simp only at hj hl hs ⊢
        have hc0 : 0 ≤ c := by rw [hl.cur]; exact Int.ediv_nonneg d0 (Int.le_of_lt (Int.pow_pos (by decide)))
        have hc1 : c < 10000 := by
          have := Int.ediv_le_self (10 ^ j) d0
          rw [← hl.cur] at this
          omega
        have hsl := hl.len
        repeat' (first | refine vs (k := ?_) | refine ps (k := ?_) | (refine st hs (k := ?_); intro w hs) | (refine stA hs (k := ?_); intro w hs) | (refine al hs (k := ?_); intro b w hz hs) | (refine bx hs (k := ?_); intro b w hz hs) | (refine bs hs (k := ?_); intro b w hz hs) | refine XS.nil ?_ | refine then_of ?_ | refine xc_seq ?_ | (refine xc_region ?_ ?_; exact rfl) | refine xc_block ?_ | refine block_normal ?_ | refine xc_ret ?_ | refine then_ret ?_ | refine block_ret ?_ | refine xc_skip ?_ | refine xc_exit ?_ | refine then_exit ?_ | refine loopS_exit ?_ | refine loopS_ret ?_ | refine cutB_ret ?_ | refine cutN_ret ?_ | refine cutN_exit ?_ | refine block_exit ?_ | (refine block_other ?_ ?_; exact rfl) | (refine xc_true ?_ ?_; exact rfl) | (refine xc_false ?_ ?_; exact rfl) | ((with_reducible apply xs_guard); exact rfl; exact rfl; intro c hc; (fail_if_success (have : true = c := hc)); (fail_if_success (have : false = c := hc)); cases c) | (refine xc_if rfl (fun hc => ?_) (fun hc => ?_)) | (refine xc_cond rfl (fun hc => ?_) (fun hc => ?_)))
        · refine xs_val rfl (r_strOne (c := UInt8.ofNat (48 + (c % 10).toNat)) rfl (hs.at_ _ List.mem_cons_self) (byte_of (Int.emod_nonneg _ (by decide)) (Int.emod_lt_of_pos _ (by decide)))) ?_
          replace hs := hs.forgetNew
          repeat' (first | refine vs (k := ?_) | refine ps (k := ?_) | (refine st hs (k := ?_); intro w hs) | (refine stA hs (k := ?_); intro w hs) | (refine al hs (k := ?_); intro b w hz hs) | (refine bx hs (k := ?_); intro b w hz hs) | (refine bs hs (k := ?_); intro b w hz hs) | refine XS.nil ?_ | refine then_of ?_ | refine xc_seq ?_ | (refine xc_region ?_ ?_; exact rfl) | refine xc_block ?_ | refine block_normal ?_ | refine xc_ret ?_ | refine then_ret ?_ | refine block_ret ?_ | refine xc_skip ?_ | refine xc_exit ?_ | refine then_exit ?_ | refine loopS_exit ?_ | refine loopS_ret ?_ | refine cutB_ret ?_ | refine cutN_ret ?_ | refine cutN_exit ?_ | refine block_exit ?_ | (refine block_other ?_ ?_; exact rfl) | (refine xc_true ?_ ?_; exact rfl) | (refine xc_false ?_ ?_; exact rfl) | ((with_reducible apply xs_guard); exact rfl; exact rfl; intro c hc; (fail_if_success (have : true = c := hc)); (fail_if_success (have : false = c := hc)); cases c) | (refine xc_if rfl (fun hc => ?_) (fun hc => ?_)) | (refine xc_cond rfl (fun hc => ?_) (fun hc => ?_)))
          refine xs_val rfl (r_addS (a := [UInt8.ofNat (48 + (c % 10).toNat)]) (b := s) rfl rfl (by simp only [List.length_cons, List.length_nil]; omega)) ?_
          repeat' (first | refine vs (k := ?_) | refine ps (k := ?_) | (refine st hs (k := ?_); intro w hs) | (refine stA hs (k := ?_); intro w hs) | (refine al hs (k := ?_); intro b w hz hs) | (refine bx hs (k := ?_); intro b w hz hs) | (refine bs hs (k := ?_); intro b w hz hs) | refine XS.nil ?_ | refine then_of ?_ | refine xc_seq ?_ | (refine xc_region ?_ ?_; exact rfl) | refine xc_block ?_ | refine block_normal ?_ | refine xc_ret ?_ | refine then_ret ?_ | refine block_ret ?_ | refine xc_skip ?_ | refine xc_exit ?_ | refine then_exit ?_ | refine loopS_exit ?_ | refine loopS_ret ?_ | refine cutB_ret ?_ | refine cutN_ret ?_ | refine cutN_exit ?_ | refine block_exit ?_ | (refine block_other ?_ ?_; exact rfl) | (refine xc_true ?_ ?_; exact rfl) | (refine xc_false ?_ ?_; exact rfl) | ((with_reducible apply xs_guard); exact rfl; exact rfl; intro c hc; (fail_if_success (have : true = c := hc)); (fail_if_success (have : false = c := hc)); cases c) | (refine xc_if rfl (fun hc => ?_) (fun hc => ?_)) | (refine xc_cond rfl (fun hc => ?_) (fun hc => ?_)))
          have ej : IntKind.i64.wrap ((j : Nat) + 1) = ((j + 1 : Nat) : Int) := i64_small (by omega) (by omega)
          refine loopS_next (j + 1, c / 10, UInt8.ofNat (48 + (c % 10).toNat) :: s) (by show 4 - (j + 1) < 4 - j; omega) (by (repeat (first | exact agree_nil | (apply agree_cons; first | exact rfl | exact congrArg (Value.int .i64) ej)))) ⟨⟨by show j + 1 ≤ 4; omega, lim_next hl d0⟩, hs⟩
        · have : j = 4 := by omega
          subst this
          refine cutB_exit s (by (repeat (first | exact agree_nil | (apply agree_cons; exact rfl)))) ⟨⟨c, hl⟩, hs⟩
      · clear hs
        rintro s env w ⟨⟨c, hl⟩, hs⟩
        obtain ⟨t1, t2, t3⟩ := lim_limb hl d0 d1
        have ei : IntKind.i64.wrap ((i : Nat) + 1) = ((i + 1 : Nat) : Int) := i64_small (by omega) (by omega)
        repeat' (first | refine vs (k := ?_) | refine ps (k := ?_) | (refine st hs (k := ?_); intro w hs) | (refine stA hs (k := ?_); intro w hs) | (refine al hs (k := ?_); intro b w hz hs) | (refine bx hs (k := ?_); intro b w hz hs) | (refine bs hs (k := ?_); intro b w hz hs) | refine XS.nil ?_ | refine then_of ?_ | refine xc_seq ?_ | (refine xc_region ?_ ?_; exact rfl) | refine xc_block ?_ | refine block_normal ?_ | refine xc_ret ?_ | refine then_ret ?_ | refine block_ret ?_ | refine xc_skip ?_ | refine xc_exit ?_ | refine then_exit ?_ | refine loopS_exit ?_ | refine loopS_ret ?_ | refine cutB_ret ?_ | refine cutN_ret ?_ | refine cutN_exit ?_ | refine block_exit ?_ | (refine block_other ?_ ?_; exact rfl) | (refine xc_true ?_ ?_; exact rfl) | (refine xc_false ?_ ?_; exact rfl) | ((with_reducible apply xs_guard); exact rfl; exact rfl; intro c hc; (fail_if_success (have : true = c := hc)); (fail_if_success (have : false = c := hc)); cases c) | (refine xc_if rfl (fun hc => ?_) (fun hc => ?_)) | (refine xc_cond rfl (fun hc => ?_) (fun hc => ?_)))
        refine loopS_next (i + 1, s) (by show ds.length - (i + 1) < ds.length - i; omega) (by (repeat (first | exact agree_nil | (apply agree_cons; first | exact rfl | exact congrArg (Value.int .i64) ei)))) ⟨⟨by show i + 1 ≤ _; omega, t1, t2, t3⟩, hs⟩
    · have : i = ds.length := by omega
      subst this
      rw [List.take_length] at s3
      refine cutB_exit s (by (repeat (first | exact agree_nil | (apply agree_cons; exact rfl)))) ⟨⟨s1, s2, s3⟩, hs⟩
  · clear hs
    rintro s0 env w ⟨⟨s1, s2, s3⟩, hs⟩
    repeat' (first | refine vs (k := ?_) | refine ps (k := ?_) | (refine st hs (k := ?_); intro w hs) | (refine stA hs (k := ?_); intro w hs) | (refine al hs (k := ?_); intro b w hz hs) | (refine bx hs (k := ?_); intro b w hz hs) | (refine bs hs (k := ?_); intro b w hz hs) | refine XS.nil ?_ | refine then_of ?_ | refine xc_seq ?_ | (refine xc_region ?_ ?_; exact rfl) | refine xc_block ?_ | refine block_normal ?_ | refine xc_ret ?_ | refine then_ret ?_ | refine block_ret ?_ | refine xc_skip ?_ | refine xc_exit ?_ | refine then_exit ?_ | refine loopS_exit ?_ | refine loopS_ret ?_ | refine cutB_ret ?_ | refine cutN_ret ?_ | refine cutN_exit ?_ | refine block_exit ?_ | (refine block_other ?_ ?_; exact rfl) | (refine xc_true ?_ ?_; exact rfl) | (refine xc_false ?_ ?_; exact rfl) | ((with_reducible apply xs_guard); exact rfl; exact rfl; intro c hc; (fail_if_success (have : true = c := hc)); (fail_if_success (have : false = c := hc)); cases c) | (refine xc_if rfl (fun hc => ?_) (fun hc => ?_)) | (refine xc_cond rfl (fun hc => ?_) (fun hc => ?_)))
    refine xc_cutB (fun s : List UInt8 => [(1, .pointer (some ⟨b, 0, none⟩)), (3, strV s)]) (fun s w => s = trimZ s0 ∧ St w0 D0 [(b, .cells [Value.bool neg, .slice ad ds.length cap].toArray 31, true)] w) ?_ ?_
    · refine xc_loopS (fun (s : List UInt8) => [(1, .pointer (some ⟨b, 0, none⟩)), (3, strV s)]) (fun s w => trimZ s = trimZ s0 ∧ St w0 D0 [(b, .cells [Value.bool neg, .slice ad ds.length cap].toArray 31, true)] w) (fun s => s.length) s0 (by (repeat (first | exact agree_nil | (apply agree_cons; exact rfl)))) ⟨rfl, hs⟩ fun s env w ⟨h1, hs⟩ => ?_
      repeat' (first | refine vs (k := ?_) | refine ps (k := ?_) | (refine st hs (k := ?_); intro w hs) | (refine stA hs (k := ?_); intro w hs) | (refine al hs (k := ?_); intro b w hz hs) | (refine bx hs (k := ?_); intro b w hz hs) | (refine bs hs (k := ?_); intro b w hz hs) | refine XS.nil ?_ | refine then_of ?_ | refine xc_seq ?_ | refine xc_block ?_ | refine block_normal ?_ | refine xc_ret ?_ | refine then_ret ?_ | refine block_ret ?_ | refine xc_skip ?_ | refine xc_exit ?_ | refine then_exit ?_ | refine loopS_exit ?_ | refine loopS_ret ?_ | refine cutB_ret ?_ | refine cutN_ret ?_ | refine cutN_exit ?_ | refine block_exit ?_ | (refine block_other ?_ ?_; exact rfl) | (refine xc_true ?_ ?_; exact rfl) | (refine xc_false ?_ ?_; exact rfl) | ((with_reducible apply xs_guard); exact rfl; exact rfl; intro c hc; (fail_if_success (have : true = c := hc)); (fail_if_success (have : false = c := hc)); cases c) | (refine xc_if rfl (fun hc => ?_) (fun hc => ?_)) | (refine xc_cond rfl (fun hc => ?_) (fun hc => ?_)))
      refine xc_region ?_ ?_; exact rfl
      refine vs (k := ?_)
      refine xs_val rfl (r_lenStr rfl string_ty rfl) ?_
      refine vs (k := ?_)
      match s, h1 with
      | [], h1 =>
        refine xs_set 31 (v := .bool false) (congrArg Value.bool rfl) ?_
        repeat' (first | refine vs (k := ?_) | refine ps (k := ?_) | (refine st hs (k := ?_); intro w hs) | (refine stA hs (k := ?_); intro w hs) | (refine al hs (k := ?_); intro b w hz hs) | (refine bx hs (k := ?_); intro b w hz hs) | (refine bs hs (k := ?_); intro b w hz hs) | refine XS.nil ?_ | refine then_of ?_ | refine xc_seq ?_ | (refine xc_region ?_ ?_; exact rfl) | refine xc_block ?_ | refine block_normal ?_ | refine xc_ret ?_ | refine then_ret ?_ | refine block_ret ?_ | refine xc_skip ?_ | refine xc_exit ?_ | refine then_exit ?_ | refine loopS_exit ?_ | refine loopS_ret ?_ | refine cutB_ret ?_ | refine cutN_ret ?_ | refine cutN_exit ?_ | refine block_exit ?_ | (refine block_other ?_ ?_; exact rfl) | (refine xc_true ?_ ?_; exact rfl) | (refine xc_false ?_ ?_; exact rfl) | ((with_reducible apply xs_guard); exact rfl; exact rfl; intro c hc; (fail_if_success (have : true = c := hc)); (fail_if_success (have : false = c := hc)); cases c) | (refine xc_if rfl (fun hc => ?_) (fun hc => ?_)) | (refine xc_cond rfl (fun hc => ?_) (fun hc => ?_)))
        exact cutB_exit [] (by (repeat (first | exact agree_nil | (apply agree_cons; exact rfl)))) ⟨h1, hs⟩
      | [a], h1 =>
        refine xs_set 31 (v := .bool false) (congrArg Value.bool rfl) ?_
        repeat' (first | refine vs (k := ?_) | refine ps (k := ?_) | (refine st hs (k := ?_); intro w hs) | (refine stA hs (k := ?_); intro w hs) | (refine al hs (k := ?_); intro b w hz hs) | (refine bx hs (k := ?_); intro b w hz hs) | (refine bs hs (k := ?_); intro b w hz hs) | refine XS.nil ?_ | refine then_of ?_ | refine xc_seq ?_ | (refine xc_region ?_ ?_; exact rfl) | refine xc_block ?_ | refine block_normal ?_ | refine xc_ret ?_ | refine then_ret ?_ | refine block_ret ?_ | refine xc_skip ?_ | refine xc_exit ?_ | refine then_exit ?_ | refine loopS_exit ?_ | refine loopS_ret ?_ | refine cutB_ret ?_ | refine cutN_ret ?_ | refine cutN_exit ?_ | refine block_exit ?_ | (refine block_other ?_ ?_; exact rfl) | (refine xc_true ?_ ?_; exact rfl) | (refine xc_false ?_ ?_; exact rfl) | ((with_reducible apply xs_guard); exact rfl; exact rfl; intro c hc; (fail_if_success (have : true = c := hc)); (fail_if_success (have : false = c := hc)); cases c) | (refine xc_if rfl (fun hc => ?_) (fun hc => ?_)) | (refine xc_cond rfl (fun hc => ?_) (fun hc => ?_)))
        exact cutB_exit [a] (by (repeat (first | exact agree_nil | (apply agree_cons; exact rfl)))) ⟨h1, hs⟩
      | a :: a' :: s, h1 =>
        refine xs_set 31 (v := .bool true) (congrArg Value.bool (decide_eq_true (by simp only [List.length_cons]; omega))) ?_
        refine vs (k := ?_)
        refine vs (k := ?_)
        refine xs_val rfl (r_idxStr (i := 0) (b := a) string_ty rfl rfl rfl) ?_
        repeat' (first | refine vs (k := ?_) | refine ps (k := ?_) | (refine st hs (k := ?_); intro w hs) | (refine stA hs (k := ?_); intro w hs) | (refine al hs (k := ?_); intro b w hz hs) | (refine bx hs (k := ?_); intro b w hz hs) | (refine bs hs (k := ?_); intro b w hz hs) | refine XS.nil ?_ | refine then_of ?_ | refine xc_seq ?_ | (refine xc_region ?_ ?_; exact rfl) | refine xc_block ?_ | refine block_normal ?_ | refine xc_ret ?_ | refine then_ret ?_ | refine block_ret ?_ | refine xc_skip ?_ | refine xc_exit ?_ | refine then_exit ?_ | refine loopS_exit ?_ | refine loopS_ret ?_ | refine cutB_ret ?_ | refine cutN_ret ?_ | refine cutN_exit ?_ | refine block_exit ?_ | (refine block_other ?_ ?_; exact rfl) | (refine xc_true ?_ ?_; exact rfl) | (refine xc_false ?_ ?_; exact rfl) | ((with_reducible apply xs_guard); exact rfl; exact rfl; intro c hc; (fail_if_success (have : true = c := hc)); (fail_if_success (have : false = c := hc)); cases c) | (refine xc_if rfl (fun hc => ?_) (fun hc => ?_)) | (refine xc_cond rfl (fun hc => ?_) (fun hc => ?_)))
        · have e : a = 48 := by
            have h : (a.toNat : Int) = 48 := by simpa using hc
            exact UInt8.toNat_inj.1 (by have : a.toNat = 48 := by omega
                                        rw [this]; rfl)
          refine xs_val rfl (r_tailStr (l := 1) string_ty rfl rfl (by simp)) ?_
          repeat' (first | refine vs (k := ?_) | refine ps (k := ?_) | (refine st hs (k := ?_); intro w hs) | (refine stA hs (k := ?_); intro w hs) | (refine al hs (k := ?_); intro b w hz hs) | (refine bx hs (k := ?_); intro b w hz hs) | (refine bs hs (k := ?_); intro b w hz hs) | refine XS.nil ?_ | refine then_of ?_ | refine xc_seq ?_ | (refine xc_region ?_ ?_; exact rfl) | refine xc_block ?_ | refine block_normal ?_ | refine xc_ret ?_ | refine then_ret ?_ | refine block_ret ?_ | refine xc_skip ?_ | refine xc_exit ?_ | refine then_exit ?_ | refine loopS_exit ?_ | refine loopS_ret ?_ | refine cutB_ret ?_ | refine cutN_ret ?_ | refine cutN_exit ?_ | refine block_exit ?_ | (refine block_other ?_ ?_; exact rfl) | (refine xc_true ?_ ?_; exact rfl) | (refine xc_false ?_ ?_; exact rfl) | ((with_reducible apply xs_guard); exact rfl; exact rfl; intro c hc; (fail_if_success (have : true = c := hc)); (fail_if_success (have : false = c := hc)); cases c) | (refine xc_if rfl (fun hc => ?_) (fun hc => ?_)) | (refine xc_cond rfl (fun hc => ?_) (fun hc => ?_)))
          refine loopS_next (a' :: s) (by simp) (by (repeat (first | exact agree_nil | (apply agree_cons; exact rfl)))) ⟨?_, hs⟩
          rw [← h1, e]
          rfl
        · have e : a ≠ 48 := fun e => by subst e; simp at hc
          refine cutB_exit (a :: a' :: s) (by (repeat (first | exact agree_nil | (apply agree_cons; exact rfl)))) ⟨?_, hs⟩
          rw [← h1]
          simp [trimZ, e]
    · clear hs
      rintro s env w ⟨rfl, hs⟩
      repeat' (first | refine vs (k := ?_) | refine ps (k := ?_) | (refine st hs (k := ?_); intro w hs) | (refine stA hs (k := ?_); intro w hs) | (refine al hs (k := ?_); intro b w hz hs) | (refine bx hs (k := ?_); intro b w hz hs) | (refine bs hs (k := ?_); intro b w hz hs) | refine XS.nil ?_ | refine then_of ?_ | refine xc_seq ?_ | (refine xc_region ?_ ?_; exact rfl) | refine xc_block ?_ | refine block_normal ?_ | refine xc_ret ?_ | refine then_ret ?_ | refine block_ret ?_ | refine xc_skip ?_ | refine xc_exit ?_ | refine then_exit ?_ | refine loopS_exit ?_ | refine loopS_ret ?_ | refine cutB_ret ?_ | refine cutN_ret ?_ | refine cutN_exit ?_ | refine block_exit ?_ | (refine block_other ?_ ?_; exact rfl) | (refine xc_true ?_ ?_; exact rfl) | (refine xc_false ?_ ?_; exact rfl) | ((with_reducible apply xs_guard); exact rfl; exact rfl; intro c hc; (fail_if_success (have : true = c := hc)); (fail_if_success (have : false = c := hc)); cases c) | (refine xc_if rfl (fun hc => ?_) (fun hc => ?_)) | (refine xc_cond rfl (fun hc => ?_) (fun hc => ?_)))
      refine xs_val rfl (r_eqStr (b := []) string_ty rfl rfl) ?_
      have e0 : (0 : Int) ≤ valD ds := valD_nonneg hok
      have e1 : valS s0 = (valD ds).natAbs := by omega
      repeat' (first | refine vs (k := ?_) | refine ps (k := ?_) | (refine st hs (k := ?_); intro w hs) | (refine stA hs (k := ?_); intro w hs) | (refine al hs (k := ?_); intro b w hz hs) | (refine bx hs (k := ?_); intro b w hz hs) | (refine bs hs (k := ?_); intro b w hz hs) | refine XS.nil ?_ | refine then_of ?_ | refine xc_seq ?_ | (refine xc_region ?_ ?_; exact rfl) | refine xc_block ?_ | refine block_normal ?_ | refine xc_ret ?_ | refine then_ret ?_ | refine block_ret ?_ | refine xc_skip ?_ | refine xc_exit ?_ | refine then_exit ?_ | refine loopS_exit ?_ | refine loopS_ret ?_ | refine cutB_ret ?_ | refine cutN_ret ?_ | refine cutN_exit ?_ | refine block_exit ?_ | (refine block_other ?_ ?_; exact rfl) | (refine xc_true ?_ ?_; exact rfl) | (refine xc_false ?_ ?_; exact rfl) | ((with_reducible apply xs_guard); exact rfl; exact rfl; intro c hc; (fail_if_success (have : true = c := hc)); (fail_if_success (have : false = c := hc)); cases c) | (refine xc_if rfl (fun hc => ?_) (fun hc => ?_)) | (refine xc_cond rfl (fun hc => ?_) (fun hc => ?_)))
      · first | refine rt (hq := ?_) | refine rt' (hq := ?_)
        refine ⟨?_, hs.only0 rfl⟩
        have := trim_ne hc s1
        subst this
        obtain rfl : ds = [] := List.eq_nil_of_length_eq_zero (by simp at s2; omega)
        rw [hz0 rfl]
        have e : textOf (sg false (valD [])) = [48] := by
          unfold textOf
          simp [sg, valD, decDigits_one]
        rw [e]
        rfl
      · have hne : ¬ trimZ s0 = [] := by assumption
        have hn : neg = true := by simpa using hc
        subst hn
        have e2 := trimZ_digs s0 (fun e => hne (by rw [e]; rfl)) s1
        have e3 : ds ≠ [] := fun e => by subst e; simp at s2; subst s2; exact hne rfl
        have e4 := valD_pos hok ht e3
        refine xs_val rfl (r_addS (a := [45]) (b := trimZ s0) rfl rfl ?_) ?_
        · have := trimZ_len s0
          simp only [List.length_cons, List.length_nil]
          omega
        repeat' (first | refine vs (k := ?_) | refine ps (k := ?_) | (refine st hs (k := ?_); intro w hs) | (refine stA hs (k := ?_); intro w hs) | (refine al hs (k := ?_); intro b w hz hs) | (refine bx hs (k := ?_); intro b w hz hs) | (refine bs hs (k := ?_); intro b w hz hs) | refine XS.nil ?_ | refine then_of ?_ | refine xc_seq ?_ | (refine xc_region ?_ ?_; exact rfl) | refine xc_block ?_ | refine block_normal ?_ | refine xc_ret ?_ | refine then_ret ?_ | refine block_ret ?_ | refine xc_skip ?_ | refine xc_exit ?_ | refine then_exit ?_ | refine loopS_exit ?_ | refine loopS_ret ?_ | refine cutB_ret ?_ | refine cutN_ret ?_ | refine cutN_exit ?_ | refine block_exit ?_ | (refine block_other ?_ ?_; exact rfl) | (refine xc_true ?_ ?_; exact rfl) | (refine xc_false ?_ ?_; exact rfl) | ((with_reducible apply xs_guard); exact rfl; exact rfl; intro c hc; (fail_if_success (have : true = c := hc)); (fail_if_success (have : false = c := hc)); cases c) | (refine xc_if rfl (fun hc => ?_) (fun hc => ?_)) | (refine xc_cond rfl (fun hc => ?_) (fun hc => ?_)))
        first | refine rt (hq := ?_) | refine rt' (hq := ?_)
        refine ⟨?_, hs.only0 rfl⟩
        simp only [sg, cond_true]
        unfold textOf
        rw [e2, e1, if_pos (by omega), Int.natAbs_neg]
        rfl
      · have hne : ¬ trimZ s0 = [] := by assumption
        have hn : neg = false := by simpa using hc
        subst hn
        have e2 := trimZ_digs s0 (fun e => hne (by rw [e]; rfl)) s1
        first | refine rt (hq := ?_) | refine rt' (hq := ?_)
        refine ⟨?_, hs.only0 rfl⟩
        simp only [sg, cond_false]
        unfold textOf
        rw [e2, e1, if_neg (by omega)]
        rfl
end Go.Proofs.YtkkelelmdbemmaaDoorX
