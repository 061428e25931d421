/- The calculus, second part: one law for each kind of operation. Nothing of the program stands here. -/
import Derived.Test.YtkkelelmdbemmaaDoorX
import Derived.Laws.Pointers
import Derived.Laws.Small
import Derived.Laws.StructEq
import Derived.Laws.Tables
set_option linter.unusedVariables false
set_option linter.unusedSimpArgs false
namespace Go.Proofs.YtkkelelmdbemmaaDoorX
open Go Go.RowKit

theorem add_addr (b o k : Nat) : (⟨b, o, none⟩ : Addr).add k = ⟨b, o + k, none⟩ := by
  unfold Addr.add
  split <;> simp_all
theorem run_underlying' {P : Program} {t : Nat} {d : TypeDesc} (h : P.underlying t = some d) (w : World) : (underlying t).run P w = .ok d w := by
  simp [underlying, program, Sem.run_bind, Sem.run, h]
theorem run_typeInfo' {P : Program} {t : Nat} {i : TypeInfo} (h : P.info? t = some i) (w : World) : (typeInfo t).run P w = .ok i w := by
  simp [typeInfo, program, Sem.run_bind, Sem.run, h]

section
variable {P : Program} {ops : Array Oper} {QE : Exit → Env → World → Prop} {n : Nat} {rest : List Oper} {env : Env} {w wb : World} {D : Ctx} {H : List Ent} {T : Tab}
  {d : Option Nat} {ty : Nat} {pos : String} {aft : Array Edge} {g : Option (Nat × Bool)}

/-! ### Operations that only reckon -/
theorem xs_val {op : Op} {v : Value} (hw : wantedE ops env g = true) (hr : (execOp (ev env) (⟨d, op, ty, pos, aft, g⟩ : Oper)).run P w = .ok (.value v) w) (k : XS P ops QE n rest (updO env d v) w) :
    XS P ops QE n (⟨d, op, ty, pos, aft, g⟩ :: rest) env w := XS.value hw hr k
theorem r_move {x : Operand} {v : Value}  (hv : ev env x = v) :
    (execOp (ev env) (⟨d, .move x, ty, pos, aft, g⟩ : Oper)).run P w = .ok (.value v) w :=
  (by rw [← hv]; rfl)
theorem r_assign {x : Operand} {v : Value}  (hv : ev env x = v) :
    (execOp (ev env) (⟨d, .assign x, ty, pos, aft, g⟩ : Oper)).run P w = .ok (.value v) w :=
  (by rw [← hv]; rfl)
/-- A guarded operation whose guard says no. -/
theorem xs_pass {op : Op} (hw : wantedE ops env g = false) (k : XS P ops QE n rest (updO env d undef) w) : XS P ops QE n (⟨d, op, ty, pos, aft, g⟩ :: rest) env w :=
  XS.pass hw k
theorem r_pick {c x y : Operand} {b : Bool} {v : Value}  (hc : ev env c = .bool b) (hv : (bif b then ev env x else ev env y) = v) :
    (execOp (ev env) (⟨d, .pick c x y, ty, pos, aft, g⟩ : Oper)).run P w = .ok (.value v) w :=
  (by subst hv; cases b <;> simp [execOp, hc, asBool])
theorem r_nilCheck {x : Operand} {a : Addr}  (hx : ev env x = .pointer (some a)) :
    (execOp (ev env) (⟨d, .nilCheck x, ty, pos, aft, g⟩ : Oper)).run P w = .ok (.value (.pointer (some a))) w :=
  (by simp [execOp, hx])
theorem r_nilCheckF {x : Operand} {f : Nat} {xs ys : Array Value}  (hx : ev env x = .func (.func f) xs ys) :
    (execOp (ev env) (⟨d, .nilCheck x, ty, pos, aft, g⟩ : Oper)).run P w = .ok (.value (.func (.func f) xs ys)) w :=
  (by simp [execOp, hx])
theorem r_fieldAddr (hT : TabOk P T) {s f k b o q : Nat} {x : Operand} (hk : (look s T.offs).bind (·[f]?) = some k)  (hx : ev env x = .pointer (some ⟨b, o, none⟩)) (hq : o + k = q) :
    (execOp (ev env) (⟨d, .fieldAddr s x f, ty, pos, aft, g⟩ : Oper)).run P w = .ok (.value (.pointer (some ⟨b, q, none⟩))) w :=
  (by
    subst hq
    have h := hT.off hk
    unfold fieldOff at h
    split at h
    · rename_i fs hu
      obtain ⟨fd, hfd, h⟩ := Option.bind_eq_some_iff.1 h
      cases hi : P.info? fd.type with
      | none => simp [hi] at h
      | some i =>
        simp only [hi] at h
        by_cases hz : i.size = 0
        · simp [hz] at h
        · rw [if_neg hz] at h
          cases h
          simp [execOp, Instr.fieldAt, hx, Sem.run_bind, run_underlying' hu, hfd, Instr.sureAddr, fieldPlace, sizeOf, run_typeInfo' hi, hz, add_addr]
    · cases h)
theorem r_extract {x : Operand} {vs : List Value} {i : Nat} {v : Value}  (hx : ev env x = .tuple vs.toArray) (hv : vs[i]? = some v) :
    (execOp (ev env) (⟨d, .extract x i, ty, pos, aft, g⟩ : Oper)).run P w = .ok (.value v) w :=
  (by simp [execOp, hx, Instr.extract, hv, Sem.run_bind])
theorem r_makeFunc {fn : Fn} {first caps : Array Operand} :
    (execOp (ev env) (⟨d, .makeFunc fn first caps, ty, pos, aft, g⟩ : Oper)).run P w = .ok (.value (.func fn (first.toList.map (ev env)).toArray (caps.toList.map (ev env)).toArray)) w :=
  (by simp [execOp, Instr.makeFunc, Sem.run_bind, ← Array.toList_map])
theorem r_conv (hT : TabOk P T) {src dst : Nat} {k k' : IntKind} {x : Operand} {a : Int} (hk : look dst T.iks = some k) (hk' : look src T.iks = some k')  (hx : ev env x = .int k' a) :
    (execOp (ev env) (⟨d, .convert src dst x, ty, pos, aft, g⟩ : Oper)).run P w = .ok (.value (.int k (k.wrap a))) w :=
  (by simp [execOp, hx, convert, Sem.run_bind, run_underlying' (hT.ik hk), run_underlying' (hT.ik hk'), Conv.intToInt])
theorem r_not {t : Nat} {x : Operand} {b : Bool}  (hx : ev env x = .bool b) :
    (execOp (ev env) (⟨d, .unOp .not t x, ty, pos, aft, g⟩ : Oper)).run P w = .ok (.value (.bool !b)) w :=
  (by simp [execOp, hx, Op.unary, Sem.run_bind])
theorem r_neg {t : Nat} {x : Operand} {kk : IntKind} {a : Int}  (hx : ev env x = .int kk a) :
    (execOp (ev env) (⟨d, .unOp .neg t x, ty, pos, aft, g⟩ : Oper)).run P w = .ok (.value (.int kk (kk.wrap (0 - a)))) w :=
  (by simp [execOp, hx, Op.unary, Op.intArith, Sem.run_bind])
/-- What an operator on two numbers gives. -/
def binI (op : BinOp) (k : IntKind) (a b : Int) : Option Value := match op with
  | .add => some (.int k (k.wrap (a + b)))
  | .sub => some (.int k (k.wrap (a - b)))
  | .mul => some (.int k (k.wrap (a * b)))
  | .eql => some (.bool (a == b))
  | .neq => some (.bool (a != b))
  | .lss => some (.bool (decide (a < b)))
  | .leq => some (.bool (decide (a ≤ b)))
  | .gtr => some (.bool (decide (b < a)))
  | .geq => some (.bool (decide (b ≤ a)))
  | _ => none
theorem r_bin {op : BinOp} {t t' : Nat} {x y : Operand} {kk : IntKind} {a b : Int} {v : Value}  (hx : ev env x = .int kk a) (hy : ev env y = .int kk b) (hv : binI op kk a b = some v) :
    (execOp (ev env) (⟨d, .binOp op t x y t', ty, pos, aft, g⟩ : Oper)).run P w = .ok (.value v) w :=
  (by
    cases op <;> simp [binI] at hv <;> subst hv <;>
      simp [execOp, hx, hy, eqGuard, binOp, Op.intArith, Op.intCmp, Sem.run_bind])
/-- / and %, by a number that isn't 0. -/
theorem r_quo {t t' : Nat} {x y : Operand} {kk : IntKind} {a b : Int} (hb : b ≠ 0)  (hx : ev env x = .int kk a) (hy : ev env y = .int kk b) :
    (execOp (ev env) (⟨d, .binOp .quo t x y t', ty, pos, aft, g⟩ : Oper)).run P w = .ok (.value (.int kk (kk.wrap (a.tdiv b)))) w :=
  (by simp [execOp, hx, hy, eqGuard, binOp, Op.intDiv, hb, Sem.run_bind])
theorem r_rem {t t' : Nat} {x y : Operand} {kk : IntKind} {a b : Int} (hb : b ≠ 0)  (hx : ev env x = .int kk a) (hy : ev env y = .int kk b) :
    (execOp (ev env) (⟨d, .binOp .rem t x y t', ty, pos, aft, g⟩ : Oper)).run P w = .ok (.value (.int kk (a.tmod b))) w :=
  (by simp [execOp, hx, hy, eqGuard, binOp, Op.intDiv, hb, Sem.run_bind])
theorem r_shl {t t' : Nat} {x y : Operand} {kk k2 : IntKind} {a b : Int} (hb : 0 ≤ b)  (hx : ev env x = .int kk a) (hy : ev env y = .int k2 b) :
    (execOp (ev env) (⟨d, .binOp .shl t x y t', ty, pos, aft, g⟩ : Oper)).run P w = .ok (.value (.int kk (kk.wrap (a * 2 ^ (min b.toNat kk.bits))))) w :=
  (by simp [execOp, hx, hy, eqGuard, binOp, Op.shift, show ¬ b < 0 by omega, Sem.run_bind])
theorem r_shr {t t' : Nat} {x y : Operand} {kk k2 : IntKind} {a b : Int} (hb : 0 ≤ b)  (hx : ev env x = .int kk a) (hy : ev env y = .int k2 b) :
    (execOp (ev env) (⟨d, .binOp .shr t x y t', ty, pos, aft, g⟩ : Oper)).run P w = .ok (.value (.int kk (a.fdiv (2 ^ (min b.toNat kk.bits))))) w :=
  (by simp [execOp, hx, hy, eqGuard, binOp, Op.shift, show ¬ b < 0 by omega, Sem.run_bind])
theorem r_bits {op : BinOp} {t t' : Nat} {x y : Operand} {kk : IntKind} {a b : Int} {v : Value} (hv : (Op.intBits op kk a b).run P w = .ok v w) (hop : op = .and ∨ op = .or ∨ op = .xor)  (hx : ev env x = .int kk a) (hy : ev env y = .int kk b) :
    (execOp (ev env) (⟨d, .binOp op t x y t', ty, pos, aft, g⟩ : Oper)).run P w = .ok (.value v) w :=
  (by rcases hop with rfl | rfl | rfl <;> simp [execOp, hx, hy, eqGuard, binOp, hv, Sem.run_bind])
def shTab : List (Nat × Int) := [(0, 1), (1, 2), (2, 4), (3, 8), (4, 16), (5, 32), (6, 64), (7, 128), (8, 256), (9, 512), (10, 1024), (11, 2048), (12, 4096), (13, 8192), (14, 16384), (15, 32768), (16, 65536), (17, 131072), (18, 262144), (19, 524288), (20, 1048576), (21, 2097152), (22, 4194304), (23, 8388608), (24, 16777216), (25, 33554432), (26, 67108864), (27, 134217728), (28, 268435456), (29, 536870912), (30, 1073741824), (31, 2147483648), (32, 4294967296), (33, 8589934592), (34, 17179869184), (35, 34359738368), (36, 68719476736), (37, 137438953472), (38, 274877906944), (39, 549755813888), (40, 1099511627776), (41, 2199023255552), (42, 4398046511104), (43, 8796093022208), (44, 17592186044416), (45, 35184372088832), (46, 70368744177664), (47, 140737488355328), (48, 281474976710656), (49, 562949953421312), (50, 1125899906842624), (51, 2251799813685248), (52, 4503599627370496), (53, 9007199254740992), (54, 18014398509481984), (55, 36028797018963968), (56, 72057594037927936), (57, 144115188075855872), (58, 288230376151711744), (59, 576460752303423488), (60, 1152921504606846976), (61, 2305843009213693952), (62, 4611686018427387904), (63, 9223372036854775808)]
theorem shTab_eq : shTab = (List.range 64).map fun k => (k, (2 : Int) ^ k) := by rfl
theorem look_map {α : Type} {f : Nat → Nat} {h : Nat → α} {k : Nat} {x : α} {l : List Nat} (hk : look k (l.map fun i => (f i, h i)) = some x) : ∃ i ∈ l, f i = k ∧ h i = x := by
  have := look_mem hk
  obtain ⟨i, hi, he⟩ := List.mem_map.1 this
  simp only [Prod.mk.injEq] at he
  exact ⟨i, hi, he.1, he.2⟩
/-- What a shift by a known number makes. -/
def ShAmt (kk : IntKind) (c p : Int) : Prop := 0 ≤ c ∧ (2 : Int) ^ (min c.toNat kk.bits) = p
theorem shAmt {kk : IntKind} {c p : Int} (h0 : decide (0 ≤ c) = true) (h1 : Nat.ble c.toNat kk.bits = true) (hp : look c.toNat shTab = some p) : ShAmt kk c p := by
  rw [shTab_eq] at hp
  obtain ⟨i, _, h3, h4⟩ := look_map (f := fun k => k) (h := fun k => (2 : Int) ^ k) hp
  have := Nat.le_of_ble_eq_true h1
  refine ⟨of_decide_eq_true h0, ?_⟩
  rw [Nat.min_eq_left this, ← h4]
  have h3 : i = c.toNat := h3
  rw [h3]
theorem r_shrC {t t' : Nat} {x y : Operand} {kk k2 : IntKind} {a c p : Int} (hx : ev env x = .int kk a) (hy : ev env y = .int k2 c) (hp : ShAmt kk c p) :
    (execOp (ev env) (⟨d, .binOp .shr t x y t', ty, pos, aft, g⟩ : Oper)).run P w = .ok (.value (.int kk (a / p))) w := by
  obtain ⟨hc, rfl⟩ := hp
  rw [r_shr hc hx hy, Int.fdiv_eq_ediv_of_nonneg _ (Int.le_of_lt (Int.pow_pos (by decide)))]
theorem r_shlC {t t' : Nat} {x y : Operand} {kk k2 : IntKind} {a c p : Int} (hx : ev env x = .int kk a) (hy : ev env y = .int k2 c) (hp : ShAmt kk c p) :
    (execOp (ev env) (⟨d, .binOp .shl t x y t', ty, pos, aft, g⟩ : Oper)).run P w = .ok (.value (.int kk (kk.wrap (a * p)))) w := by
  obtain ⟨hc, rfl⟩ := hp
  rw [r_shl hc hx hy]
def maskTab : List (Nat × Int) := [(1, 2), (3, 4), (7, 8), (15, 16), (31, 32), (63, 64), (127, 128), (255, 256), (511, 512), (1023, 1024), (2047, 2048), (4095, 4096), (8191, 8192), (16383, 16384), (32767, 32768), (65535, 65536), (131071, 131072), (262143, 262144), (524287, 524288), (1048575, 1048576), (2097151, 2097152), (4194303, 4194304), (8388607, 8388608), (16777215, 16777216), (33554431, 33554432), (67108863, 67108864), (134217727, 134217728), (268435455, 268435456), (536870911, 536870912), (1073741823, 1073741824), (2147483647, 2147483648), (4294967295, 4294967296), (8589934591, 8589934592), (17179869183, 17179869184), (34359738367, 34359738368), (68719476735, 68719476736), (137438953471, 137438953472), (274877906943, 274877906944), (549755813887, 549755813888), (1099511627775, 1099511627776), (2199023255551, 2199023255552), (4398046511103, 4398046511104), (8796093022207, 8796093022208), (17592186044415, 17592186044416), (35184372088831, 35184372088832), (70368744177663, 70368744177664), (140737488355327, 140737488355328), (281474976710655, 281474976710656), (562949953421311, 562949953421312), (1125899906842623, 1125899906842624), (2251799813685247, 2251799813685248), (4503599627370495, 4503599627370496), (9007199254740991, 9007199254740992), (18014398509481983, 18014398509481984), (36028797018963967, 36028797018963968), (72057594037927935, 72057594037927936), (144115188075855871, 144115188075855872), (288230376151711743, 288230376151711744), (576460752303423487, 576460752303423488), (1152921504606846975, 1152921504606846976), (2305843009213693951, 2305843009213693952), (4611686018427387903, 4611686018427387904), (9223372036854775807, 9223372036854775808)]
theorem maskTab_eq : maskTab = (List.range 63).map fun k => (2 ^ (k + 1) - 1, (2 : Int) ^ (k + 1)) := by rfl
theorem r_andM {t t' : Nat} {x y : Operand} {a m : Int} {p : Int} (hx : ev env x = .int .u64 a) (hy : ev env y = .int .u64 m) (hm0 : decide (0 ≤ m) = true) (hk : look m.toNat maskTab = some p) (h0 : 0 ≤ a) (h1 : a < 18446744073709551616) :
    (execOp (ev env) (⟨d, .binOp .and t x y t', ty, pos, aft, g⟩ : Oper)).run P w = .ok (.value (.int .u64 (a % p))) w := by
  refine r_bits ?_ (.inl rfl) hx hy
  have hm0 := of_decide_eq_true hm0
  rw [maskTab_eq] at hk
  obtain ⟨k', hr, hm, hp⟩ := look_map hk
  simp only [List.mem_range] at hr
  generalize hk' : k' + 1 = k at hm hp
  have hm : (2 : Int) ^ k - 1 = m := by
    have : ((2 ^ k - 1 : Nat) : Int) = m := by rw [hm]; omega
    rw [← this]
    have : 1 ≤ 2 ^ k := Nat.one_le_two_pow
    simp [Int.natCast_sub this]
  subst hp hm
  obtain ⟨n, rfl⟩ := Int.eq_ofNat_of_zero_le h0
  have h2 : ((2 : Int) ^ k - 1) = ((2 ^ k - 1 : Nat) : Int) := by
    have : 1 ≤ 2 ^ k := Nat.one_le_two_pow
    simp [Int.natCast_sub this]
  have h3 : 2 ^ k - 1 < 2 ^ 64 := by
    have : 2 ^ k ≤ 2 ^ 64 := Nat.pow_le_pow_right (by decide) (by omega)
    have : 1 ≤ 2 ^ k := Nat.one_le_two_pow
    omega
  have hn : n < 2 ^ 64 := by omega
  have he : (BitVec.ofInt 64 (n : Int) &&& BitVec.ofInt 64 (((2 ^ k - 1 : Nat)) : Int)).toNat = n % 2 ^ k := by
    rw [BitVec.toNat_and, BitVec.ofInt_natCast, BitVec.ofInt_natCast, BitVec.toNat_ofNat, BitVec.toNat_ofNat, Nat.mod_eq_of_lt hn, Nat.mod_eq_of_lt h3, Nat.and_two_pow_sub_one_eq_mod]
  show (pure (Value.int .u64 (IntKind.u64.wrap ((BitVec.ofInt 64 (n : Int) &&& BitVec.ofInt 64 ((2 : Int) ^ k - 1)).toNat : Int))) : Sem Value).run P w = _
  rw [h2, he, Sem.run_pure]
  have hlt : n % 2 ^ k < 2 ^ 64 := Nat.lt_of_le_of_lt (Nat.mod_le _ _) hn
  have : IntKind.u64.wrap ((n % 2 ^ k : Nat) : Int) = ((n % 2 ^ k : Nat) : Int) := by
    simp only [IntKind.wrap, IntKind.signed, IntKind.bits]
    simp only [Bool.false_and, Bool.false_eq_true, if_false]
    exact Int.emod_eq_of_lt (by omega) (by simpa using (by exact_mod_cast hlt : ((n % 2 ^ k : Nat) : Int) < ((2 ^ 64 : Nat) : Int)))
  rw [this]
  simp
theorem wrap_small {n : Int} (h0 : 0 ≤ n) (h1 : n < 18446744073709551616) : IntKind.u64.wrap n = n := by
  have : IntKind.u64.wrap n = n % 18446744073709551616 := by simp [IntKind.wrap, IntKind.signed, IntKind.bits]
  rw [this]; omega
theorem r_shlS {t t' : Nat} {x y : Operand} {kk k2 : IntKind} {a c : Int} (s : Nat) (hx : ev env x = .int kk a) (hy : ev env y = .int k2 c) (hc : c = s) (hs : s ≤ kk.bits) :
    (execOp (ev env) (⟨d, .binOp .shl t x y t', ty, pos, aft, g⟩ : Oper)).run P w = .ok (.value (.int kk (kk.wrap (a * 2 ^ s)))) w := by
  subst hc
  rw [r_shl (by omega) hx hy]
  simp [Nat.min_eq_left hs]
theorem r_shrS {t t' : Nat} {x y : Operand} {kk k2 : IntKind} {a c : Int} (s : Nat) (hx : ev env x = .int kk a) (hy : ev env y = .int k2 c) (hc : c = s) (hs : s ≤ kk.bits) :
    (execOp (ev env) (⟨d, .binOp .shr t x y t', ty, pos, aft, g⟩ : Oper)).run P w = .ok (.value (.int kk (a / 2 ^ s))) w := by
  subst hc
  rw [r_shr (by omega) hx hy, Int.fdiv_eq_ediv_of_nonneg _ (Int.le_of_lt (Int.pow_pos (by decide)))]
  simp [Nat.min_eq_left hs]
/-- | of two numbers whose bits lie apart. -/
theorem r_orS {t t' : Nat} {x y : Operand} {a b : Int} (s : Nat) (k : Int) (hx : ev env x = .int .u64 a) (hy : ev env y = .int .u64 b) (ha : a = k * 2 ^ s) (hk : 0 ≤ k) (hb0 : 0 ≤ b) (hb1 : b < 2 ^ s) (hab : a + b < 18446744073709551616) :
    (execOp (ev env) (⟨d, .binOp .or t x y t', ty, pos, aft, g⟩ : Oper)).run P w = .ok (.value (.int .u64 (a + b))) w := by
  refine r_bits ?_ (.inr (.inl rfl)) hx hy
  obtain ⟨m, rfl⟩ := Int.eq_ofNat_of_zero_le hk
  obtain ⟨n, rfl⟩ := Int.eq_ofNat_of_zero_le hb0
  have ha' : a = ((2 ^ s * m : Nat) : Int) := by rw [ha]; simp [Int.mul_comm]
  clear ha hx
  subst ha'
  have hn : n < 2 ^ s := by exact_mod_cast hb1
  have hl : 2 ^ s * m + n < 2 ^ 64 := by omega
  have he : (BitVec.ofInt 64 ((2 ^ s * m : Nat) : Int) ||| BitVec.ofInt 64 (n : Int)).toNat = 2 ^ s * m + n := by
    rw [BitVec.toNat_or, BitVec.ofInt_natCast, BitVec.ofInt_natCast, BitVec.toNat_ofNat, BitVec.toNat_ofNat, Nat.mod_eq_of_lt (by omega), Nat.mod_eq_of_lt (by omega), Nat.two_pow_add_eq_or_of_lt hn]
  show (pure (Value.int .u64 (IntKind.u64.wrap ((BitVec.ofInt 64 ((2 ^ s * m : Nat) : Int) ||| BitVec.ofInt 64 (n : Int)).toNat : Int))) : Sem Value).run P w = _
  rw [he, Sem.run_pure, wrap_small (by omega) (by omega)]
  simp
theorem u64_rng (n : Int) : 0 ≤ IntKind.u64.wrap n ∧ IntKind.u64.wrap n < 18446744073709551616 := by
  have : IntKind.u64.wrap n = n % 18446744073709551616 := by simp [IntKind.wrap, IntKind.signed, IntKind.bits]
  rw [this]; omega
theorem r_quoU {t t' : Nat} {x y : Operand} {a b : Int} (hx : ev env x = .int .u64 a) (hy : ev env y = .int .u64 b) (h0 : 0 ≤ a) (h1 : a < 18446744073709551616) (h2 : 0 < b) :
    (execOp (ev env) (⟨d, .binOp .quo t x y t', ty, pos, aft, g⟩ : Oper)).run P w = .ok (.value (.int .u64 (a / b))) w := by
  rw [r_quo (by omega) hx hy, Int.tdiv_eq_ediv_of_nonneg h0, wrap_small (Int.ediv_nonneg h0 (by omega)) (Int.lt_of_le_of_lt (Int.ediv_le_self _ h0) h1)]
theorem r_remU {t t' : Nat} {x y : Operand} {a b : Int} (hx : ev env x = .int .u64 a) (hy : ev env y = .int .u64 b) (h0 : 0 ≤ a) (h1 : a < 18446744073709551616) (h2 : 0 < b) :
    (execOp (ev env) (⟨d, .binOp .rem t x y t', ty, pos, aft, g⟩ : Oper)).run P w = .ok (.value (.int .u64 (a % b))) w := by
  rw [r_rem (by omega) hx hy, Int.tmod_eq_emod_of_nonneg h0]
theorem wrap_smallS {n : Int} (h0 : -9223372036854775808 ≤ n) (h1 : n < 9223372036854775808) : IntKind.i64.wrap n = n := by
  simp only [IntKind.wrap, IntKind.signed, IntKind.bits]
  simp
  split <;> omega
theorem r_quoS {t t' : Nat} {x y : Operand} {a b : Int} (hx : ev env x = .int .i64 a) (hy : ev env y = .int .i64 b) (h0 : 0 ≤ a) (h1 : a < 9223372036854775808) (h2 : 0 < b) :
    (execOp (ev env) (⟨d, .binOp .quo t x y t', ty, pos, aft, g⟩ : Oper)).run P w = .ok (.value (.int .i64 (a / b))) w := by
  have := Int.ediv_nonneg h0 (Int.le_of_lt h2)
  have := Int.ediv_le_self b h0
  rw [r_quo (by omega) hx hy, Int.tdiv_eq_ediv_of_nonneg h0, wrap_smallS (by omega) (by omega)]
theorem r_remS {t t' : Nat} {x y : Operand} {a b : Int} (hx : ev env x = .int .i64 a) (hy : ev env y = .int .i64 b) (h0 : 0 ≤ a) (h2 : 0 < b) :
    (execOp (ev env) (⟨d, .binOp .rem t x y t', ty, pos, aft, g⟩ : Oper)).run P w = .ok (.value (.int .i64 (a % b))) w := by
  rw [r_rem (by omega) hx hy, Int.tmod_eq_emod_of_nonneg h0]
/-- == and != on bools. -/
theorem kind_bool {t : Nat} (h : kindOf P t = 1) : P.underlying t = some .bool := by
  unfold kindOf at h
  split at h <;> first | assumption | (split at h <;> first | (split at h <;> simp_all) | simp_all) | simp_all
theorem kind_ptr {t : Nat} (h : kindOf P t = 2) : ∃ e i, P.underlying t = some (.pointer e) ∧ P.info? e = some i ∧ i.size ≠ 0 := by
  unfold kindOf at h
  split at h <;> try (simp at h; done)
  rename_i e hu
  split at h
  · rename_i i hi
    split at h
    · simp at h
    · exact ⟨e, i, hu, hi, by assumption⟩
  · simp at h
theorem kind_func {t : Nat} (h : kindOf P t = 3) : ∃ a b c, P.underlying t = some (.func a b c) := by
  unfold kindOf at h
  split at h <;> first | exact ⟨_, _, _, by assumption⟩ | (split at h <;> first | (split at h <;> simp at h) | simp at h) | simp at h
theorem kind_slice {t : Nat} (h : kindOf P t = 4) : ∃ a, P.underlying t = some (.slice a) := by
  unfold kindOf at h
  split at h <;> first | exact ⟨_, by assumption⟩ | (split at h <;> first | (split at h <;> simp at h) | simp at h) | simp at h
theorem kind_string {t : Nat} (h : kindOf P t = 6) : P.underlying t = some .string := by
  unfold kindOf at h
  split at h <;> first | assumption | (split at h <;> first | (split at h <;> simp at h) | simp at h) | simp at h
/-- A table of bytes, held as a string: its byte at i. -/
theorem r_indexT (hT : TabOk P T) {t : Nat} {x y : Operand} {s : ByteArray} {kk : IntKind} {i : Int} (N : Nat) (f : Nat → Nat) (ht : look t T.kinds = some 6) (hx : ev env x = .string s) (hy : ev env y = .int kk i)
    (htab : ((List.range N).all fun k => match s[k]? with | some b => Nat.beq b.toNat (f k) | none => false) = true) (h0 : 0 ≤ i) (h1 : i < (N : Int)) :
    (execOp (ev env) (⟨d, .index t x y, ty, pos, aft, g⟩ : Oper)).run P w = .ok (.value (.int .u8 (f i.toNat : Nat))) w := by
  have hu := kind_string (hT.kind ht)
  have h2 := List.all_eq_true.1 htab i.toNat (List.mem_range.2 (by omega))
  cases hb : s[i.toNat]? with
  | none => rw [hb] at h2; cases h2
  | some b =>
    rw [hb] at h2
    have h2 := Nat.eq_of_beq_eq_true h2
    simp [execOp, hx, hy, Instr.index, asIntOf, Sem.run_bind, run_underlying' hu, h0, hb, h2]
/-- An operator, told beside. -/
theorem r_binX {op : BinOp} {t t' : Nat} {x y : Operand} {v : Value} (hg : (eqGuard op t x y (ev env x) (ev env y)).run P w = .ok () w) (hb : (binOp op t (ev env x) (ev env y)).run P w = .ok v w) :
    (execOp (ev env) (⟨d, .binOp op t x y t', ty, pos, aft, g⟩ : Oper)).run P w = .ok (.value v) w :=
  (by simp only [execOp, Sem.run_bind, hg, Result.andThen_ok, hb, Sem.run_pure])
theorem r_eqB (hT : TabOk P T) {t t' : Nat} {x y : Operand} {a b : Bool} (ht : look t T.kinds = some 1)  (hx : ev env x = .bool a) (hy : ev env y = .bool b) :
    (execOp (ev env) (⟨d, .binOp .eql t x y t', ty, pos, aft, g⟩ : Oper)).run P w = .ok (.value (.bool (a == b))) w :=
  r_binX (by rw [hx, hy]; simp [eqGuard]) (by rw [hx, hy]; exact run_eql_bool w t a b (kind_bool (hT.kind ht)))
theorem r_neB (hT : TabOk P T) {t t' : Nat} {x y : Operand} {a b : Bool} (ht : look t T.kinds = some 1)  (hx : ev env x = .bool a) (hy : ev env y = .bool b) :
    (execOp (ev env) (⟨d, .binOp .neq t x y t', ty, pos, aft, g⟩ : Oper)).run P w = .ok (.value (.bool (a != b))) w :=
  r_binX (by rw [hx, hy]; simp [eqGuard]) (by rw [hx, hy]; exact run_neq_bool w t a b (kind_bool (hT.kind ht)))
theorem kind_pointee {t : Nat} (h : kindOf P t = 2) : P.underlying t = some (.pointer (P.pointee t)) := by
  obtain ⟨e, i, hu, _, _⟩ := kind_ptr h
  rw [hu]; simp [Program.pointee, hu]
/-- A pointer against nil. -/
theorem r_eqNil (hT : TabOk P T) {t t' : Nat} {x y : Operand} {a : Option Addr} (ht : look t T.kinds = some 2)  (hx : ev env x = .pointer a) (hy : ev env y = .pointer none) :
    (execOp (ev env) (⟨d, .binOp .eql t x y t', ty, pos, aft, g⟩ : Oper)).run P w = .ok (.value (.bool a.isNone)) w :=
  r_binX (by rw [hx, hy]; simp [eqGuard]) (by rw [hx, hy]; exact run_eql_pointer_nil w t a (kind_pointee (hT.kind ht)))
theorem r_neNil (hT : TabOk P T) {t t' : Nat} {x y : Operand} {a : Option Addr} (ht : look t T.kinds = some 2)  (hx : ev env x = .pointer a) (hy : ev env y = .pointer none) :
    (execOp (ev env) (⟨d, .binOp .neq t x y t', ty, pos, aft, g⟩ : Oper)).run P w = .ok (.value (.bool (!a.isNone))) w :=
  r_binX (by rw [hx, hy]; simp [eqGuard]) (by rw [hx, hy]; exact run_neq_pointer_nil w t a (kind_pointee (hT.kind ht)))
/-! ### Memory -/
theorem tk_flat {t : Nat} {k : Nat} (h : tkOf P t = some (false, k)) : (∀ w : World, (isAgg t).run P w = .ok false w) ∧ ∃ i, P.info? t = some i ∧ i.size = k := by
  unfold tkOf at h
  split at h
  · simp at h
  · simp at h
  · rename_i d' i hd1 hd2 hu hi
    simp at h
    refine ⟨fun w => ?_, i, hi, h⟩
    simp only [isAgg, Sem.run_bind, run_underlying' hu, Result.andThen_ok]
    cases d' <;> simp_all
  · simp at h
theorem tk_agg {t : Nat} {k : Nat} (h : tkOf P t = some (true, k)) : (∀ w : World, (isAgg t).run P w = .ok true w) ∧ ∃ i, P.info? t = some i ∧ i.size = k := by
  unfold tkOf at h
  split at h
  · rename_i fs i hu hi
    simp at h
    exact ⟨fun w => by simp [isAgg, Sem.run_bind, run_underlying' hu], i, hi, h⟩
  · rename_i m e i hu hi
    simp at h
    exact ⟨fun w => by simp [isAgg, Sem.run_bind, run_underlying' hu], i, hi, h⟩
  · simp at h
  · simp at h

/-- A load of several cells. -/
theorem run_loadVar_agg {t b off k : Nat} {cs : List Value} {E : TypeId} {fr : Nat × Nat} (ht : tkOf P t = some (true, k)) (hb : w.heap[b]? = some (.cells cs.toArray E fr)) (hl : off + k ≤ cs.length) :
    (loadVar t ⟨b, off, none⟩).run P w = .ok (.agg ((cs.drop off).take k).toArray) w := by
  obtain ⟨ha, i, hi, rfl⟩ := tk_agg ht
  have hlen : ((cs.drop off).take i.size).length = i.size := by simp; omega
  have h := run_loadCells_list (P := P) w ⟨b, off, none⟩ ((cs.drop off).take i.size) (fun j v hj => by
    rw [add_addr]
    have hj' : j < i.size := by
      rcases Nat.lt_or_ge j i.size with h' | h'
      · exact h'
      · rw [List.getElem?_eq_none (by omega)] at hj; cases hj
    rw [List.getElem?_take, if_pos hj', List.getElem?_drop] at hj
    simp [World.cell?, hb, hj])
  rw [hlen] at h
  simp [loadVar, Sem.run_bind, ha, sizeOf, run_typeInfo' hi, h]
theorem run_loadVar_flat {t b off : Nat} {cs : List Value} {E : TypeId} {fr : Nat × Nat} {v : Value} (ht : tkOf P t = some (false, 1)) (hb : w.heap[b]? = some (.cells cs.toArray E fr)) (hc : cs[off]? = some v) :
    (loadVar t ⟨b, off, none⟩).run P w = .ok v w := by
  have hcell : w.cell? ⟨b, off, none⟩ = some v := by simp [World.cell?, hb, hc]
  simp [loadVar, Sem.run_bind, (tk_flat ht).1, load, Sem.run, hcell]
theorem r_load (hT : TabOk P T) {t b off : Nat} {x : Operand} {cs : List Value} {E : TypeId} {fr : Nat × Nat} {nw : Bool} {f : Obj → List Ent} {v : Value} (ht : look t T.tks = some (false, 1)) 
    (hp : ev env x = .pointer (some ⟨b, off, none⟩)) (hH : Hold H w) (hA : At H b (.cells cs.toArray E fr) nw f) (hc : cs[off]? = some v) :
    (execOp (ev env) (⟨d, .load t x, ty, pos, aft, g⟩ : Oper)).run P w = .ok (.value v) w :=
  (by simp [execOp, hp, Instr.loadAt, Instr.sureAddr, Sem.run_bind, run_loadVar_flat (hT.tk ht) (hH _ hA.mem) hc])
/-- Cells of a list, one by one. -/
inductive Pick (cs : List Value) : Nat → Nat → List Value → Prop
  | nil {off : Nat} : Pick cs off 0 []
  | cons {off m : Nat} {v : Value} {vs : List Value} : cs[off]? = some v → Pick cs (off + 1) m vs → Pick cs off (m + 1) (v :: vs)
theorem Pick.eq {cs : List Value} {off m : Nat} {vs : List Value} (h : Pick cs off m vs) : off + m ≤ cs.length + (if m = 0 then off else 0) ∧ (cs.drop off).take m = vs := by
  induction h with
  | nil => simp
  | @cons off m v vs hc _ ih =>
    have hlt : off < cs.length := by rcases Nat.lt_or_ge off cs.length with h | h; exact h; rw [List.getElem?_eq_none h] at hc; cases hc
    obtain ⟨h1, h2⟩ := ih
    refine ⟨?_, ?_⟩
    · simp; split at h1 <;> omega
    · rw [List.drop_eq_getElem_cons hlt, List.take_succ_cons, h2]
      rw [List.getElem?_eq_getElem hlt] at hc
      cases hc; rfl
theorem Pick.le {cs : List Value} {off m : Nat} {vs : List Value} (h : Pick cs off (m + 1) vs) : off + (m + 1) ≤ cs.length := by have := h.eq.1; simpa using this
theorem r_loadA (hT : TabOk P T) {t b off m : Nat} {x : Operand} {cs vs : List Value} {E : TypeId} {fr : Nat × Nat} {nw : Bool} {f : Obj → List Ent} (ht : look t T.tks = some (true, m + 1)) 
    (hp : ev env x = .pointer (some ⟨b, off, none⟩)) (hH : Hold H w) (hA : At H b (.cells cs.toArray E fr) nw f) (hc : Pick cs off (m + 1) vs) :
    (execOp (ev env) (⟨d, .load t x, ty, pos, aft, g⟩ : Oper)).run P w = .ok (.value (.agg vs.toArray)) w :=
  (by simp [execOp, hp, Instr.loadAt, Instr.sureAddr, Sem.run_bind, run_loadVar_agg (hT.tk ht) (hH _ hA.mem) hc.le, hc.eq.2])
/-- Cells with others in their place from off on. -/
def putAt (cs : List Value) (off : Nat) (vs : List Value) : List Value := cs.take off ++ vs ++ cs.drop (off + vs.length)
/-- The same, one by one. -/
inductive PutL : List Value → Nat → List Value → List Value → Prop
  | nil {cs : List Value} : PutL cs 0 [] cs
  | skip {c : Value} {cs vs cs' : List Value} {off : Nat} : PutL cs off vs cs' → PutL (c :: cs) (off + 1) vs (c :: cs')
  | cons {c v : Value} {cs vs cs' : List Value} : PutL cs 0 vs cs' → PutL (c :: cs) 0 (v :: vs) (v :: cs')
theorem PutL.eq {cs vs cs' : List Value} {off : Nat} (h : PutL cs off vs cs') : putAt cs off vs = cs' ∧ off + vs.length ≤ cs.length := by
  induction h with
  | nil => simp [putAt]
  | skip _ ih => obtain ⟨h1, h2⟩ := ih; unfold putAt at *; refine ⟨?_, by simp; omega⟩; rw [← h1]; simp [Nat.add_right_comm]
  | cons _ ih => obtain ⟨h1, h2⟩ := ih; unfold putAt at *; refine ⟨?_, by simp at h2 ⊢; omega⟩; rw [← h1]; simp
theorem storeVar_run {t b off : Nat} {cs vs : List Value} {E : TypeId} {v : Value} (hsz : ∃ i, P.info? t = some i ∧ i.size = vs.length) (hv : v.cells = vs.toArray) (h1 : ∀ x ∈ vs, x.oneCell' = true)
    (hb : w.heap[b]? = some (.cells cs.toArray E (0, 0))) (hl : off + vs.length ≤ cs.length) :
    (storeVar t ⟨b, off, none⟩ v).run P w = .ok () (w.setRow b (putAt cs off vs).toArray) := by
  obtain ⟨i, hi, hs⟩ := hsz
  have h := run_storeCells_at P b off E vs 0 cs.toArray w hb (by simpa using hl) h1
  simp only [Nat.add_zero] at h
  simp [storeVar, Sem.run_bind, sizeOf, run_typeInfo' hi, hv, hs, h, putAt]
theorem St.row (hs : St wb D H w) {b : Nat} {cs : Array Value} {E : TypeId} {nw : Bool} {f : Obj → List Ent} (hA : At H b (.cells cs E (0, 0)) nw f) (cs' : Array Value) : St wb D (f (.cells cs' E (0, 0))) (w.setRow b cs') :=
  hs.put hA rfl rfl rfl (by simp [World.setRow]) (fun k hk => by simp [World.setRow, Array.getElem?_modify, Ne.symm hk]) (setRow_heap w b cs cs' E (0, 0) (hs.get hA))
theorem xs_store (hT : TabOk P T) {t b off : Nat} {x y : Operand} {cs cs' : List Value} {E : TypeId} {nw : Bool} {f : Obj → List Ent} {v : Value} (ht : look t T.tks = some (false, 1)) (hw : wantedE ops env g = true)
    (hp : ev env x = .pointer (some ⟨b, off, none⟩)) (hv : ev env y = v) (h1 : v.oneCell' = true) (hs : St wb D H w) (hA : At H b (.cells cs.toArray E (0, 0)) nw f) (hc : PutL cs off [v] cs')
    (k : ∀ w', St wb D (f (.cells cs'.toArray E (0, 0))) w' → XS P ops QE n rest (updO env d undef) w') :
    XS P ops QE n (⟨d, .store t x y, ty, pos, aft, g⟩ :: rest) env w := by
  have hcells : v.cells = [v].toArray := by cases v <;> first | rfl | simp [Value.oneCell'] at h1
  have hrun := storeVar_run (P := P) (off := off) (by have := (tk_flat (hT.tk ht)).2; simpa using this) hcells (by simpa using h1) (hs.get hA) hc.eq.2
  rw [hc.eq.1] at hrun
  exact XS.skipped hw (by simp [execOp, hp, hv, Instr.storeAt, Instr.sureAddr, Sem.run_bind, hrun]) (k _ (hs.row hA _))
theorem xs_storeA (hT : TabOk P T) {t b off m : Nat} {x y : Operand} {cs vs cs' : List Value} {E : TypeId} {nw : Bool} {f : Obj → List Ent} (ht : look t T.tks = some (true, m)) (hw : wantedE ops env g = true)
    (hp : ev env x = .pointer (some ⟨b, off, none⟩)) (hv : ev env y = .agg vs.toArray) (hm : Nat.beq vs.length m = true) (h1 : vs.all Value.oneCell' = true) (hs : St wb D H w) (hA : At H b (.cells cs.toArray E (0, 0)) nw f) (hc : PutL cs off vs cs')
    (k : ∀ w', St wb D (f (.cells cs'.toArray E (0, 0))) w' → XS P ops QE n rest (updO env d undef) w') :
    XS P ops QE n (⟨d, .store t x y, ty, pos, aft, g⟩ :: rest) env w := by
  have hlen := Nat.eq_of_beq_eq_true hm
  subst hlen
  have hrun := storeVar_run (P := P) (v := .agg vs.toArray) (off := off) (by have := (tk_agg (hT.tk ht)).2; simpa using this) rfl (List.all_eq_true.1 h1) (hs.get hA) hc.eq.2
  rw [hc.eq.1] at hrun
  exact XS.skipped hw (by simp [execOp, hp, hv, Instr.storeAt, Instr.sureAddr, Sem.run_bind, hrun]) (k _ (hs.row hA _))

theorem run_zeroValue {t : Nat} {cs : Array Value} (h : zeroOf P t = some cs) : ∃ z, z.cells = cs ∧ ∀ w : World, (zeroValue t).run P w = .ok z w := by
  unfold zeroOf at h
  obtain ⟨i, hi, h⟩ := Option.bind_eq_some_iff.1 h
  obtain ⟨z, hz, rfl⟩ := Option.map_eq_some_iff.1 h
  exact ⟨z, rfl, fun w => by simp [zeroValue, Sem.run_bind, run_typeInfo' hi, hz]⟩
theorem xs_alloc (hT : TabOk P T) {t : Nat} {cs : List Value} (ht : look t T.zs = some cs) (hw : wantedE ops env g = true) (hs : St wb D H w)
    (k : ∀ b w', w'.heap.size = w.heap.size + 1 → St wb D ((b, .cells cs.toArray t, true) :: H) w' → XS P ops QE n rest (updO env d (.pointer (some ⟨b, 0, none⟩))) w') :
    XS P ops QE n (⟨d, .alloc t, ty, pos, aft, g⟩ :: rest) env w := by
  obtain ⟨z, hz, hr⟩ := run_zeroValue (hT.z ht)
  refine XS.value hw (w' := { w with heap := w.heap.push (.cells cs.toArray t) }) (v := .pointer (some ⟨w.heap.size, 0, none⟩)) ?_ (k w.heap.size _ (by simp) (hs.alloc _))
  simp only [execOp, Instr.alloc, Sem.run_bind, hr, Result.andThen_ok]
  simp [newVar, newRow, newObj, Sem.run, Sem.run_bind, hz]
theorem xs_box {t : Nat} {x : Operand} {cs : List Value} (hw : wantedE ops env g = true) (hx : (ev env x).cells = cs.toArray) (hs : St wb D H w)
    (k : ∀ b w', w'.heap.size = w.heap.size + 1 → St wb D ((b, .cells cs.toArray t, true) :: H) w' → XS P ops QE n rest (updO env d (.pointer (some ⟨b, 0, none⟩))) w') :
    XS P ops QE n (⟨d, .box t x, ty, pos, aft, g⟩ :: rest) env w := by
  refine XS.value hw (w' := { w with heap := w.heap.push (.cells cs.toArray t) }) (v := .pointer (some ⟨w.heap.size, 0, none⟩)) ?_ (k w.heap.size _ (by simp) (hs.alloc _))
  simp [execOp, Instr.box, newVar, newRow, newObj, Sem.run, Sem.run_bind, hx]

/-- A struct literal. -/
def buildE (pl : List (Nat × Nat)) : List Value → List (Nat × Value) → Option (List Value)
  | cs, [] => some cs
  | cs, (i, v) :: rest => match pl[i]? with
    | none => none
    | some (off, size) => bif Nat.beq v.cells.size size && Nat.ble (off + size) cs.length then buildE pl (putAt cs off v.cells.toList) rest else none
theorem foldl_put : ∀ (vs : List Value) (j off : Nat) (cs : List Value), off + j + vs.length ≤ cs.length →
    ((vs.zipIdx j).foldl (fun (cs : Array Value) (x : Value × Nat) => cs.setIfInBounds (off + x.2) x.1) cs.toArray) = (putAt cs (off + j) vs).toArray
  | [], j, off, cs, h => by simp [putAt]
  | v :: vs, j, off, cs, h => by
    simp only [List.zipIdx_cons, List.foldl_cons, List.setIfInBounds_toArray]
    rw [foldl_put vs (j + 1) off (cs.set (off + j) v) (by simp at h ⊢; omega)]
    congr 1
    unfold putAt
    have hlt : off + j < cs.length := by simp at h; omega
    rw [List.set_eq_take_append_cons_drop, if_pos hlt]
    have h1 : (List.take (off + j) cs).length = off + j := by simp; omega
    have e1 : List.take (off + (j + 1)) (List.take (off + j) cs ++ v :: List.drop (off + j + 1) cs) = List.take (off + j) cs ++ [v] := by
      rw [List.take_append, h1, List.take_of_length_le (by omega)]
      have : off + (j + 1) - (off + j) = 1 := by omega
      rw [this]; simp
    have e2 : List.drop (off + (j + 1) + vs.length) (List.take (off + j) cs ++ v :: List.drop (off + j + 1) cs) = List.drop (off + j + (vs.length + 1)) cs := by
      rw [List.drop_append, h1, List.drop_of_length_le (by omega)]
      have : off + (j + 1) + vs.length - (off + j) = vs.length + 1 := by omega
      rw [this]
      simp only [List.nil_append, List.drop_succ_cons, List.drop_drop]
      congr 1
      omega
    rw [e1, e2]
    simp
theorem fill_build' (pl : List (Nat × Nat)) (place : Nat → Option (Nat × Nat)) (hpl : ∀ i x, pl[i]? = some x → place i = some x) : ∀ (parts : List (Nat × Value)) (cs cs' : List Value), buildE pl cs parts = some cs' → Instr.fill place cs.toArray parts = some cs'.toArray
  | [], cs, cs', h => by simp [buildE] at h; subst h; rfl
  | (i, v) :: rest, cs, cs', h => by
    simp only [buildE] at h
    cases hp : pl[i]? with
    | none => simp [hp] at h
    | some os =>
      obtain ⟨off, size⟩ := os
      simp only [hp] at h
      cases hb : (Nat.beq v.cells.size size && Nat.ble (off + size) cs.length)
      · rw [hb] at h; cases h
      · rw [hb] at h
        simp only [cond_true] at h
        simp only [Bool.and_eq_true] at hb
        have h1 := Nat.eq_of_beq_eq_true hb.1
        have h2 := Nat.le_of_ble_eq_true hb.2
        subst h1
        have hf := foldl_put v.cells.toList 0 off cs (by simpa using h2)
        simp only [Nat.add_zero] at hf
        have ih := fill_build' pl place hpl rest _ _ h
        simp only [Instr.fill, hpl i _ hp]
        rw [if_neg (by simp; omega)]
        rw [← ih]
        congr 1
        rw [← hf, ← Array.foldl_toList, Array.toList_zipIdx]
theorem fill_build (pl : List (Nat × Nat)) (parts : List (Nat × Value)) (cs cs' : List Value) (h : buildE pl cs parts = some cs') : Instr.fill (pl.toArray[·]?) cs.toArray parts = some cs'.toArray :=
  fill_build' pl _ (fun i x h => by simpa using h) parts cs cs' h
/-- The same, one by one. -/
inductive Bld (env : Env) (pl : List (Nat × Nat)) : List Value → List (Nat × Operand) → List Value → Prop
  | nil {cs : List Value} : Bld env pl cs [] cs
  | one {cs cs1 cs' : List Value} {i off : Nat} {x : Operand} {rest : List (Nat × Operand)} {v : Value} : pl[i]? = some (off, 1) → ev env x = v → v.oneCell' = true → PutL cs off [v] cs1 → Bld env pl cs1 rest cs' → Bld env pl cs ((i, x) :: rest) cs'
  | agg {cs cs1 cs' vs : List Value} {i off size : Nat} {x : Operand} {rest : List (Nat × Operand)} : pl[i]? = some (off, size) → ev env x = .agg vs.toArray → Nat.beq vs.length size = true → PutL cs off vs cs1 → Bld env pl cs1 rest cs' → Bld env pl cs ((i, x) :: rest) cs'
theorem Bld.eq {env : Env} {pl : List (Nat × Nat)} {cs cs' : List Value} {parts : List (Nat × Operand)} (h : Bld env pl cs parts cs') : buildE pl cs (parts.map fun x => (x.1, ev env x.2)) = some cs' := by
  induction h with
  | nil => rfl
  | @one cs cs1 cs' i off x rest v hp hv h1 hput _ ih =>
    have hc : v.cells = #[v] := by cases v <;> first | rfl | simp [Value.oneCell'] at h1
    have h2 := hput.eq
    simp only [List.map_cons, buildE, hp, hv, hc]
    have : Nat.ble (off + 1) cs.length = true := Nat.ble_eq_true_of_le (by simpa using h2.2)
    simp [this, h2.1, ih]
  | @agg cs cs1 cs' vs i off size x rest hp hv hs hput _ ih =>
    have hs := Nat.eq_of_beq_eq_true hs
    subst hs
    have h2 := hput.eq
    simp only [List.map_cons, buildE, hp, hv, Value.cells]
    have : Nat.ble (off + vs.length) cs.length = true := Nat.ble_eq_true_of_le h2.2
    simp [this, h2.1, ih]
theorem r_build (hT : TabOk P T) {t : Nat} {parts : Array (Nat × Operand)} {pl : List (Nat × Nat)} {zs cs : List Value} (hp : look t T.pls = some pl) (ht : look t T.zs = some zs) (hb : Bld env pl zs parts.toList cs) :
    (execOp (ev env) (⟨d, .build t parts, ty, pos, aft, g⟩ : Oper)).run P w = .ok (.value (.agg cs.toArray)) w := by
  have hp := hT.pl hp
  have hbuilt : P.built t (parts.map fun (i, x) => (i, ev env x)).toList = some cs.toArray := by
    have hz := hT.z ht
    unfold zeroOf at hz
    obtain ⟨i, hi, hz⟩ := Option.bind_eq_some_iff.1 hz
    obtain ⟨z, hz, hzc⟩ := Option.map_eq_some_iff.1 hz
    unfold placesOf at hp
    split at hp
    · rename_i fs hu
      unfold Program.built
      simp only [hi, hu, hz, hp, hzc, Array.toList_map]
      exact fill_build pl _ _ _ hb.eq
    · cases hp
  simp only [execOp, Sem.run_bind, run_build w t _ _ hbuilt, Result.andThen_ok, Sem.run_pure]

/-- A slice literal. -/
def rowPl (len size : Nat) : List (Nat × Nat) := (List.range len).map fun i => (i * size, size)
def rowZ (zs : List Value) (m : Nat) : List Value := (List.range m).map fun i => zs.getD (i % zs.length) undef
theorem xs_buildSlice (hT : TabOk P T) {t e size bytes len : Nat} {parts : Array (Nat × Operand)} {zs cs : List Value} (hw : wantedE ops env g = true) (hsl : look t T.sls = some (e, size, bytes)) (hz : look e T.zs = some zs) (hzl : Nat.beq zs.length size = true) (hsm : Nat.ble (len * size) 16777216 = true) (hps : Nat.beq (len * size) 0 = false)
    (hb : Bld env (rowPl len size) (rowZ zs (len * size)) parts.toList cs) (hs : St wb D H w)
    (k : ∀ b w', w'.heap.size = w.heap.size + 1 → St wb D ((b, .cells cs.toArray e, true) :: H) w' → XS P ops QE n rest (updO env d (.slice (some ⟨b, 0, none⟩) len len)) w') :
    XS P ops QE n (⟨d, .buildSlice t len parts, ty, pos, aft, g⟩ :: rest) env w := by
  have hsl := hT.sl hsl
  have hz := hT.z hz
  have hzl := Nat.eq_of_beq_eq_true hzl
  have hsm := Nat.le_of_ble_eq_true hsm
  have hps : len * size ≠ 0 := Nat.ne_of_beq_eq_false hps
  unfold slOf at hsl
  split at hsl
  · rename_i e' hu
    obtain ⟨i, hi, hx⟩ := Option.map_eq_some_iff.1 hsl
    simp only [Prod.mk.injEq] at hx
    obtain ⟨rfl, rfl, rfl⟩ := hx
    unfold zeroOf at hz
    obtain ⟨i', hi', hz⟩ := Option.bind_eq_some_iff.1 hz
    rw [hi] at hi'; cases hi'
    obtain ⟨z, hz, hzc⟩ := Option.map_eq_some_iff.1 hz
    have hfill : Instr.fill (fun j => some (j * i.size, i.size)) ((Array.range (len * i.size)).map (z.cells[· % z.cells.size]!)) (parts.toList.map fun x => (x.1, ev env x.2)) = some cs.toArray := by
      have e1 : (Array.range (len * i.size)).map (z.cells[· % z.cells.size]!) = (rowZ zs (len * i.size)).toArray := by
        apply Array.toList_inj.1
        rw [Array.toList_map, hzc]
        simp only [Array.toList_range, rowZ]
        apply List.map_congr_left
        intro j hj
        have hpos : 0 < zs.length := by
          rw [hzl]; rcases Nat.eq_zero_or_pos i.size with h | h
          · rw [h, Nat.mul_zero] at hps; exact absurd rfl hps
          · exact h
        have hlt : j % zs.length < zs.length := Nat.mod_lt _ hpos
        simp [getElem!_def, List.getD_eq_getElem?_getD, hlt]
      rw [e1]
      exact fill_build' (rowPl len i.size) _ (fun j x hj => by
        simp only [rowPl, List.getElem?_map] at hj
        obtain ⟨q, hq, rfl⟩ := Option.map_eq_some_iff.1 hj
        have : q = j := by
          have := List.getElem?_range (n := len) (i := j) (by rcases Nat.lt_or_ge j len with h | h; exact h; rw [List.getElem?_eq_none (by simpa using h)] at hq; cases hq)
          rw [this] at hq; cases hq; rfl
        rw [this]) _ _ _ hb.eq
    refine XS.value hw (w' := { w with heap := w.heap.push (.cells cs.toArray e') }) (v := .slice (some ⟨w.heap.size, 0, none⟩) len len) ?_ (k w.heap.size _ (by simp) (hs.alloc _))
    have hbig : ¬ (len * i.size > 2 ^ 24) := by omega
    simp only [execOp, Sem.run_bind, Instr.buildSlice, run_underlying' hu, Result.andThen_ok, sizeOf, run_typeInfo' hi, Sem.run_pure, if_neg hbig, if_neg hps]
    simp [zeroValue, Sem.run_bind, run_typeInfo' hi, hz, hfill, newRow, newObj, Sem.run]
  · cases hsl

/-! ### Calls -/
theorem upon_ret {o : Oper} {a : Act} {f : FuncId} {args : Array Value} {Q : Value → World → Prop} {K : Act → World → Prop} {QA : Exit → Act → World → Prop} (hr : (execOp a.eval o).run P w = (callFunc f args).run P w)
    (hc : Ret P f args w Q) (hk : ∀ v w', Q v w' → K (a.put o.dst v) w') : o.wp P a w K QA := by
  unfold Oper.wp
  rw [hr]
  rcases hc with ⟨h1, h2⟩ | ⟨v, w', h1, h2⟩
  · rw [h1]
    simp only [Oper.upon]
    refine h2.mono fun e w' ⟨v, he, hv⟩ => ?_
    subst he
    exact hk v w' hv
  · rw [h1]
    exact hk v w' h2
theorem xs_call {c : Operand} {args : Array Operand} {ats : Array TypeId} {f : FuncId} {first caps : List Value} {Q : Value → World → Prop} (hw : wantedE ops env g = true) (hf : ev env c = .func (.func f) first.toArray caps.toArray)
    (hc : Ret P f (first ++ args.toList.map (ev env) ++ caps).toArray w Q) (k : ∀ v w', Q v w' → XS P ops QE n rest (updO env d v) w') :
    XS P ops QE n (⟨d, .call { callee := .value c, args := args, argTypes := ats }, ty, pos, aft, g⟩ :: rest) env w :=
  XS.upon hw fun a hfit hd K hK => by
    refine upon_ret (f := f) (args := (first ++ args.toList.map (ev env) ++ caps).toArray) ?_ hc fun v w' hv => hK _ _ ⟨_, hfit.put (dOk_lt hd) v, k v w' hv⟩
    rw [hfit.eval]
    have e : first.toArray ++ args.map (ev env) ++ caps.toArray = (first ++ args.toList.map (ev env) ++ caps).toArray := by
      apply Array.toList_inj.1
      simp
    simp only [execOp, resolve, hf, Deferred.ofValue, Sem.run_bind, Sem.run_pure, Result.andThen_ok, invoke, e]
/-- len of a slice. -/
theorem r_lenS (hT : TabOk P T) {x : Operand} {t : Nat} {ats : Array TypeId} {ad : Option Addr} {m c : Nat} (hat : ats[0]? = some t) (ht : look t T.kinds = some 4)  (hx : ev env x = .slice ad m c) :
    (execOp (ev env) (⟨d, .call { callee := .builtin .len, args := #[x], argTypes := ats }, ty, pos, aft, g⟩ : Oper)).run P w = .ok (.value (.int .i64 m)) w :=
  (by
    obtain ⟨e, hu⟩ := kind_slice (hT.kind ht)
    simp [execOp, resolve, Sem.run_bind, invoke, builtin, Builtin.len_, hat, hx, run_underlying' hu, goInt])
/-- max of two numbers. -/
theorem r_maxI {x y : Operand} {ats : Array TypeId} {kk : IntKind} {a b : Int} (hx : ev env x = .int kk a) (hy : ev env y = .int kk b) :
    (execOp (ev env) (⟨d, .call { callee := .builtin .max, args := #[x, y], argTypes := ats }, ty, pos, aft, g⟩ : Oper)).run P w = .ok (.value (.int kk (if b > a then b else a))) w :=
  (by simp [execOp, resolve, Sem.run_bind, invoke, builtin, Builtin.max_, Builtin.max2, hx, hy])
/-! ### Slices -/
theorem sl_parts {t e size bytes : Nat} (h : slOf P t = some (e, size, bytes)) : P.underlying t = some (.slice e) ∧ ∃ i, P.info? e = some i ∧ i.size = size ∧ i.bytes = bytes := by
  unfold slOf at h
  split at h
  · rename_i e' hu
    obtain ⟨i, hi, hx⟩ := Option.map_eq_some_iff.1 h
    simp only [Prod.mk.injEq] at hx
    obtain ⟨rfl, rfl, rfl⟩ := hx
    exact ⟨hu, i, hi, rfl, rfl⟩
  · cases h
theorem r_indexAddr (hT : TabOk P T) {t e size bytes b off m c : Nat} {x y : Operand} {kk : IntKind} {i : Int} (ht : look t T.sls = some (e, size, bytes)) (hx : ev env x = .slice (some ⟨b, off, none⟩) m c) (hy : ev env y = .int kk i) (h0 : 0 ≤ i) (h1 : i < (m : Int)) :
    (execOp (ev env) (⟨d, .indexAddr t x y, ty, pos, aft, g⟩ : Oper)).run P w = .ok (.value (.pointer (some ⟨b, off + i.toNat * size, none⟩))) w := by
  obtain ⟨hu, ii, hi, hs, _⟩ := sl_parts (hT.sl ht)
  simp [execOp, hx, hy, Instr.indexAt, asIntOf, Sem.run_bind, run_underlying' hu, sizeOf, run_typeInfo' hi, hs, h0, h1, add_addr]
/-- s[lo:hi] of a slice. -/
theorem bound_some {v : Value} {l h : Nat} {kk : IntKind} {c : BoundsCode} (hv : v = .int kk l) (h1 : l ≤ h) : (Instr.sliceBound v h c).run P w = .ok l w := by
  subst hv
  simp [Instr.sliceBound, asIntOf, Sem.run_bind, h1]
def Lo (env : Env) (lo : Option Operand) (l : Nat) : Prop := match lo with | none => l = 0 | some o => ∃ kk, ev env o = .int kk l
def Hi (env : Env) (hi : Option Operand) (m h : Nat) : Prop := match hi with | none => h = m | some o => ∃ kk, ev env o = .int kk h
theorem r_sliceLH (hT : TabOk P T) {t e size bytes b off m c : Nat} {x : Operand} {lo hi : Option Operand} {l h : Nat} (ht : look t T.sls = some (e, size, bytes)) (hx : ev env x = .slice (some ⟨b, off, none⟩) m c)
    (hlo : Lo env lo l) (hhi : Hi env hi m h) (h1 : l ≤ h) (h2 : h ≤ c) (h3 : l < c) :
    (execOp (ev env) (⟨d, .slice t x lo hi none, ty, pos, aft, g⟩ : Oper)).run P w = .ok (.value (.slice (some ⟨b, off + l * size, none⟩) (h - l) (c - l))) w := by
  obtain ⟨hu, ii, hi', hs, _⟩ := sl_parts (hT.sl ht)
  have hne : c ≠ l := by omega
  have hne' : ¬ (c - l = 0) := by omega
  cases hi with
  | some o2 =>
    obtain ⟨k2, hhi⟩ := hhi
    cases lo with
    | some o1 =>
      obtain ⟨k1, hlo⟩ := hlo
      simp [execOp, Instr.sliceAt, Sem.run_bind, run_underlying' hu, hx, Instr.slice, Instr.sliceBounds, bound_some hhi h2, bound_some hlo h1, sizeOf, run_typeInfo' hi', hs, hne, hne', add_addr]
    | none =>
      have hl : l = 0 := hlo
      subst hl
      simp [execOp, Instr.sliceAt, Sem.run_bind, run_underlying' hu, hx, Instr.slice, Instr.sliceBounds, bound_some hhi h2, sizeOf, run_typeInfo' hi', hs, hne, hne', add_addr]
  | none =>
    have hh : h = m := hhi
    subst hh
    cases lo with
    | some o1 =>
      obtain ⟨k1, hlo⟩ := hlo
      simp [execOp, Instr.sliceAt, Sem.run_bind, run_underlying' hu, hx, Instr.slice, Instr.sliceBounds, bound_some hlo h1, sizeOf, run_typeInfo' hi', hs, hne, hne', add_addr]
    | none =>
      have hl : l = 0 := hlo
      subst hl
      simp [execOp, Instr.sliceAt, Sem.run_bind, run_underlying' hu, hx, Instr.slice, Instr.sliceBounds, sizeOf, run_typeInfo' hi', hs, hne, hne', add_addr]

/-! ### Loops over states -/
theorem xs_valE {op : Op} {v v' : Value} (hw : wantedE ops env g = true) (hr : (execOp (ev env) (⟨d, op, ty, pos, aft, g⟩ : Oper)).run P w = .ok (.value v) w) (he : v = v') (k : XS P ops QE n rest (updO env d v') w) :
    XS P ops QE n (⟨d, op, ty, pos, aft, g⟩ :: rest) env w := XS.value hw hr (he ▸ k)
theorem XC.mono {QE' : Exit → Env → World → Prop} {c : Code} (h : XC P QE n c env w) (hq : ∀ e env w, QE e env w → QE' e env w) : XC P QE' n c env w := fun a hf =>
  wp_mono (h a hf) fun e a w ⟨env, hf, hQ⟩ => ⟨env, hf, hq _ _ _ hQ⟩
def Agree (env : Env) (l : List (Nat × Value)) : Prop := ∀ p ∈ l, env p.1 = p.2
def setAll (l : List (Nat × Value)) (env : Env) : Env := l.foldr (fun p e => upd e p.1 p.2) env
theorem agree_nil : Agree env [] := fun _ h => by cases h
theorem agree_cons {t : Nat} {v : Value} {l : List (Nat × Value)} (h : env t = v) (h' : Agree env l) : Agree env ((t, v) :: l) := fun p hp => by
  rcases List.mem_cons.1 hp with rfl | hp
  · exact h
  · exact h' p hp
theorem setAll_agree {l : List (Nat × Value)} (h : Agree env l) : setAll l env = env := by
  induction l with
  | nil => rfl
  | cons p l ih =>
    have hl := ih fun q hq => h q (List.mem_cons_of_mem _ hq)
    show upd (setAll l env) p.1 p.2 = env
    rw [hl]
    funext i
    by_cases e : i = p.1
    · rw [e, upd_same, h p List.mem_cons_self]
    · rw [upd_ne _ _ e]
def loopS {σ : Type} (vals : σ → List (Nat × Value)) (I : σ → World → Prop) (μ : σ → Nat) (s : σ) (QE : Exit → Env → World → Prop) : Exit → Env → World → Prop
  | .normal, env, w => ∃ s', μ s' < μ s ∧ Agree env (vals s') ∧ I s' w
  | e, env, w => QE e env w
theorem xc_loopS {σ : Type} (vals : σ → List (Nat × Value)) (I : σ → World → Prop) (μ : σ → Nat) (s0 : σ) {c : Code} (h0 : Agree env (vals s0)) (hI : I s0 w)
    (round : ∀ s env w, I s w → XC P (loopS vals I μ s QE) n c (setAll (vals s) env) w) : XC P QE n (.loop c) env w :=
  xc_loop (fun m env w => ∃ s, μ s = m ∧ Agree env (vals s) ∧ I s w) (μ s0) ⟨s0, rfl, h0, hI⟩ fun m env w ⟨s, hm, ha, hi⟩ => by
    have h := round s env w hi
    rw [setAll_agree ha] at h
    intro a hf
    refine wp_mono (h a hf) fun e a w ⟨env, hf, hq⟩ => ⟨env, hf, ?_⟩
    cases e with
    | normal => obtain ⟨s', h1, h2, h3⟩ := hq; exact ⟨μ s', by omega, s', rfl, h2, h3⟩
    | _ => exact hq
theorem loopS_next {σ : Type} {vals : σ → List (Nat × Value)} {I : σ → World → Prop} {μ : σ → Nat} {s : σ} (s' : σ) (h1 : μ s' < μ s) (h2 : Agree env (vals s')) (h3 : I s' w) : loopS vals I μ s QE .normal env w := ⟨s', h1, h2, h3⟩
theorem loopS_exit {σ : Type} {vals : σ → List (Nat × Value)} {I : σ → World → Prop} {μ : σ → Nat} {s : σ} {id : Nat} (h : QE (.exit id) env w) : loopS vals I μ s QE (.exit id) env w := h
theorem loopS_ret {σ : Type} {vals : σ → List (Nat × Value)} {I : σ → World → Prop} {μ : σ → Nat} {s : σ} (h : QE .ret env w) : loopS vals I μ s QE .ret env w := h

/-- A block that is left by its exit, or at its end, with what vals and I say. -/
def cutB {σ : Type} (id : Nat) (vals : σ → List (Nat × Value)) (I : σ → World → Prop) (QE : Exit → Env → World → Prop) : Exit → Env → World → Prop
  | .exit id', env, w => if id' = id then ∃ s, Agree env (vals s) ∧ I s w else QE (.exit id') env w
  | .normal, env, w => ∃ s, Agree env (vals s) ∧ I s w
  | e, env, w => QE e env w
theorem xc_cutB {σ : Type} {id : Nat} (vals : σ → List (Nat × Value)) (I : σ → World → Prop) {c : Code} (h : XC P (cutB id vals I QE) n c env w) (k : ∀ s env w, I s w → QE .normal (setAll (vals s) env) w) : XC P (blockE id QE) n c env w :=
  h.mono fun e env w hq => by
    cases e with
    | exit id' =>
      simp only [cutB] at hq
      simp only [blockE]
      split
      · rw [if_pos ‹_›] at hq
        obtain ⟨s, ha, hi⟩ := hq
        have := k s env w hi
        rwa [setAll_agree ha] at this
      · rw [if_neg ‹_›] at hq; exact hq
    | normal =>
      obtain ⟨s, ha, hi⟩ := hq
      have := k s env w hi
      rwa [setAll_agree ha] at this
    | _ => exact hq
theorem cutB_exit {σ : Type} {id : Nat} {vals : σ → List (Nat × Value)} {I : σ → World → Prop} (s : σ) (h2 : Agree env (vals s)) (h3 : I s w) : cutB id vals I QE (.exit id) env w := by
  simp only [cutB, if_true]; exact ⟨s, h2, h3⟩
theorem cutB_normal {σ : Type} {id : Nat} {vals : σ → List (Nat × Value)} {I : σ → World → Prop} (s : σ) (h2 : Agree env (vals s)) (h3 : I s w) : cutB id vals I QE .normal env w := ⟨s, h2, h3⟩
theorem cutB_ret {σ : Type} {id : Nat} {vals : σ → List (Nat × Value)} {I : σ → World → Prop} (h : QE .ret env w) : cutB id vals I QE .ret env w := h

/-- A statement behind which only vals and I are known. -/
def cutN {σ : Type} (vals : σ → List (Nat × Value)) (I : σ → World → Prop) (QE : Exit → Env → World → Prop) : Exit → Env → World → Prop
  | .normal, env, w => ∃ s, Agree env (vals s) ∧ I s w
  | e, env, w => QE e env w
theorem xc_cutN {σ : Type} (vals : σ → List (Nat × Value)) (I : σ → World → Prop) {c y : Code} (h : XC P (cutN vals I QE) n c env w) (k : ∀ s env w, I s w → XC P QE n y (setAll (vals s) env) w) : XC P (thenE P n y QE) n c env w :=
  h.mono fun e env w hq => by
    cases e with
    | normal =>
      obtain ⟨s, ha, hi⟩ := hq
      have := k s env w hi
      rw [setAll_agree ha] at this
      exact this
    | _ => exact hq
theorem xc_cutK (ts : List Nat) (extra : List (Nat × Value)) (hs : St wb D H w) {c y : Code} (h : XC P (cutN (fun _ : Unit => extra ++ ts.map fun t => (t, env t)) (fun _ w => St wb D H w) QE) n c env w)
    (k : ∀ env' w, St wb D H w → XC P QE n y (setAll (extra ++ ts.map fun t => (t, env t)) env') w) : XC P (thenE P n y QE) n c env w :=
  xc_cutN _ _ h fun _ env w hi => k env w hi
theorem cutN_normal {σ : Type} {vals : σ → List (Nat × Value)} {I : σ → World → Prop} (s : σ) (h2 : Agree env (vals s)) (h3 : I s w) : cutN vals I QE .normal env w := ⟨s, h2, h3⟩
theorem cutN_exit {σ : Type} {vals : σ → List (Nat × Value)} {I : σ → World → Prop} {id : Nat} (h : QE (.exit id) env w) : cutN vals I QE (.exit id) env w := h
theorem cutN_ret {σ : Type} {vals : σ → List (Nat × Value)} {I : σ → World → Prop} (h : QE .ret env w) : cutN vals I QE .ret env w := h
/-- A test of a bool known by an equation. -/
theorem xs_set (s : Nat) {l : List Oper} {v : Value} (hb : env s = v) (k : XS P ops QE n l (upd env s v) w) : XS P ops QE n l env w :=
  XS.respell (env' := upd env s v) (fun i => by
    by_cases e : i = s
    · subst e; rw [upd_same, hb]
    · rw [upd_ne _ _ e]) k
theorem xc_set (s : Nat) {c : Code} {v : Value} (hb : env s = v) (k : XC P QE n c (upd env s v) w) : XC P QE n c env w :=
  XC.respell (env' := upd env s v) (fun i => by
    by_cases e : i = s
    · subst e; rw [upd_same, hb]
    · rw [upd_ne _ _ e]) k

/-! ### Tests, results -/
theorem xs_guard {op : Op} {j s : Nat} {want b : Bool} (hj : (ops[j]?).bind (·.dst) = some s) (hb : env s = .bool b) (k : ∀ c, b = c → XS P ops QE n (⟨d, op, ty, pos, aft, some (j, want)⟩ :: rest) (upd env s (.bool c)) w) :
    XS P ops QE n (⟨d, op, ty, pos, aft, some (j, want)⟩ :: rest) env w :=
  XS.respell (env' := upd env s (.bool b)) (fun i => by
    by_cases e : i = s
    · subst e; rw [upd_same, hb]
    · rw [upd_ne _ _ e]) (k b rfl)
theorem xs_late (s : Nat) {l : List Oper} {b : Bool} (hb : env s = .bool b) (k : ∀ c, b = c → XS P ops QE n l (upd env s (.bool c)) w) : XS P ops QE n l env w :=
  XS.respell (env' := upd env s (.bool b)) (fun i => by
    by_cases e : i = s
    · subst e; rw [upd_same, hb]
    · rw [upd_ne _ _ e]) (k b rfl)
theorem ret_end {rs : List ResultVar} {vs : List Value} {Q : Value → World → Prop} (hr : resOk P env w rs vs) (hq : Q (packed vs) w) : retE P rs Q .ret env w := ⟨vs, hr, hq⟩
theorem ret_end' {rs : List ResultVar} {vs : List Value} {Q : Value → World → Prop} (hr : resOk P env w rs vs) (hq : Q (packed vs) w) : retE P rs Q .normal env w := ⟨vs, hr, hq⟩
theorem resOk_nil : resOk P env w [] [] := trivial
theorem resOk_cons {r : ResultVar} {rs : List ResultVar} {v : Value} {vs : List Value} (h : resIs P env w v r) (h' : resOk P env w rs vs) : resOk P env w (r :: rs) (v :: vs) := ⟨h, h'⟩
theorem res_tmp {t : Nat} {v : Value} (h : env t = v) : resIs P env w v (.tmp t) := h
theorem res_cellA (hT : TabOk P T) {a t b off m : Nat} {cs vs : List Value} {E : TypeId} {fr : Nat × Nat} {nw : Bool} {f : Obj → List Ent} (ht : look t T.tks = some (true, m + 1)) (hp : env a = .pointer (some ⟨b, off, none⟩)) (hH : Hold H w)
    (hA : At H b (.cells cs.toArray E fr) nw f) (hc : Pick cs off (m + 1) vs) : resIs P env w (.agg vs.toArray) (.cell a t) := ⟨_, hp, by rw [run_loadVar_agg (hT.tk ht) (hH _ hA.mem) hc.le, hc.eq.2]⟩
theorem res_cell (hT : TabOk P T) {a t b off : Nat} {cs : List Value} {v : Value} {E : TypeId} {fr : Nat × Nat} {nw : Bool} {f : Obj → List Ent} (ht : look t T.tks = some (false, 1)) (hp : env a = .pointer (some ⟨b, off, none⟩)) (hH : Hold H w)
    (hA : At H b (.cells cs.toArray E fr) nw f) (hc : cs[off]? = some v) : resIs P env w v (.cell a t) := ⟨_, hp, run_loadVar_flat (hT.tk ht) (hH _ hA.mem) hc⟩

/-! ### Regions -/
theorem xc_region {id : Nat} {l : List Oper} (hok : l.all (dOk n) = true) (h : XS P l.toArray QE n l env w) : XC P QE n (.region id l.toArray false) env w := fun a hf =>
  wp_region_lit (h hok a hf)
end
end Go.Proofs.YtkkelelmdbemmaaDoorX
