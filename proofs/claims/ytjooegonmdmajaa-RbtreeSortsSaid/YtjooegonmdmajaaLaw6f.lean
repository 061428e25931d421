/- Layer 6: the body of law06.RbtreeFolds. -/
import Derived.Test.YtjooegonmdmajaaRb16
set_option linter.unusedVariables false
set_option linter.unusedSimpArgs false
set_option maxRecDepth 100000
namespace Go.Proofs.YtjooegonmdmajaaX
open Go Go.RowKit
attribute [local irreducible] XS XC XA thenE blockE retE loopE loopS cutB cutN doneE SE
section
variable {ops : Array Oper} {QE : Exit → Env → World → Prop} {n : Nat} {rest : List Oper} {env : Env} {w wb : World} {d : Option Nat} {ty : Nat} {pos : String} {aft : Array Edge} {g : Option (Nat × Bool)}
/-- A beginning of a slice. -/
theorem sl0 {t e size bytes m c h : Nat} {x y : Operand} {ad : Option Addr} {k2 : IntKind} (h2 : h ≤ c) (ht : look t tab.sls = some (e, size, bytes) := by exact rfl) (hw : wantedE ops env g = true := by exact rfl) (hx : ev env x = .slice ad m c := by exact rfl) (hy : ev env y = .int k2 (h : Nat) := by exact rfl)
    (k : XS Try.prog ops QE n rest (updO env d (.slice ad h c)) w) : XS Try.prog ops QE n (⟨d, .slice t x none (some y) none, ty, pos, aft, g⟩ :: rest) env w := by
  obtain ⟨hu, ii, hi', hs, _⟩ := sl_parts (tabOk.sl ht)
  refine xs_val hw ?_ k
  have e0 : ∀ a : Addr, a.add 0 = a := fun a => by simp [Addr.add]
  have e1 : ad.map (fun a => a.add 0) = ad := by cases ad <;> simp [e0]
  simp [execOp, Instr.sliceAt, Sem.run_bind, run_underlying' hu, hx, Instr.slice, Instr.sliceBounds, bound_some hy h2, sizeOf, run_typeInfo' hi', hs, e1]
end
theorem DAt.take {w : World} {ad : Option Addr} {len cap n : Nat} {xs : List Int} (h : DAt w (.slice ad len cap) xs) (hn : n ≤ xs.length) : DAt w (.slice ad n cap) (xs.take n) := by
  obtain ⟨ad', cap', e, h⟩ := h
  cases e
  refine ⟨ad, cap, by rw [List.length_take, Nat.min_eq_left hn], fun hne => ?_⟩
  obtain ⟨b, off, cs, fz, h1, h2, h3, h4⟩ := h (fun e => hne (by rw [e]; simp))
  refine ⟨b, off, cs, fz, h1, by rw [List.length_take]; omega, h3, fun i d hd => h4 i d ?_⟩
  rw [List.getElem?_take] at hd
  split at hd
  · exact hd
  · cases hd
abbrev intO (x : Int) : Obj := .cells #[.int .i64 x] 3 (0, 0)
theorem le1_ret (e : Int) (eb : Nat) (y : Int) (w0 : World) (h : w0.heap[eb]? = some (intO e)) : Ret Try.prog 17 #[.int .i64 y, .pointer (some ⟨eb, 0, none⟩)] w0 fun v w' => v = .bool (decide (y ≤ e)) ∧ Only [] w0 w' := by
  have hs := (St.nil w0).track h (by simp)
  refine ret_of_xc Try.func17 (by kernel_rfl) rfl Try.ntmps17 rfl rfl rfl ?_
  repeat' (first | refine vs (k := ?_) | refine ps (k := ?_) | (refine st hs (k := ?_); intro w hs) | (refine stA hs (k := ?_); intro w hs) | (refine al hs (k := ?_); intro b w hz hs) | (refine bx hs (k := ?_); intro b w hz hs) | (refine bs hs (k := ?_); intro b w hz hs) | refine XS.nil ?_ | refine then_of ?_ | refine xc_seq ?_ | (refine xc_region ?_ ?_; exact rfl) | refine xc_block ?_ | refine block_normal ?_ | refine xc_ret ?_ | refine then_ret ?_ | refine block_ret ?_ | refine xc_skip ?_ | refine xc_exit ?_ | refine then_exit ?_ | refine loopS_exit ?_ | refine loopS_ret ?_ | refine cutB_ret ?_ | refine cutN_ret ?_ | refine cutN_exit ?_ | refine block_exit ?_ | (refine block_other ?_ ?_; exact rfl) | (refine xc_true ?_ ?_; exact rfl) | (refine xc_false ?_ ?_; exact rfl) | ((with_reducible apply xs_guard); exact rfl; exact rfl; intro c hc; (fail_if_success (have : true = c := hc)); (fail_if_success (have : false = c := hc)); cases c) | (refine xc_if rfl (fun hc => ?_) (fun hc => ?_)) | (refine xc_cond rfl (fun hc => ?_) (fun hc => ?_)))
  first | refine rt (hq := ?_) | refine rt' (hq := ?_)
  exact ⟨rfl, hs.onlyF [] (by simp [h]) (by simp [D0])⟩
theorem le2_ret (e : Int) (eb : Nat) (y : Int) (w0 : World) (h : w0.heap[eb]? = some (intO e)) : Ret Try.prog 18 #[.int .i64 y, .pointer (some ⟨eb, 0, none⟩)] w0 fun v w' => v = .bool (decide (y ≤ e)) ∧ Only [] w0 w' := by
  have hs := (St.nil w0).track h (by simp)
  refine ret_of_xc Try.func18 (by kernel_rfl) rfl Try.ntmps18 rfl rfl rfl ?_
  repeat' (first | refine vs (k := ?_) | refine ps (k := ?_) | (refine st hs (k := ?_); intro w hs) | (refine stA hs (k := ?_); intro w hs) | (refine al hs (k := ?_); intro b w hz hs) | (refine bx hs (k := ?_); intro b w hz hs) | (refine bs hs (k := ?_); intro b w hz hs) | refine XS.nil ?_ | refine then_of ?_ | refine xc_seq ?_ | (refine xc_region ?_ ?_; exact rfl) | refine xc_block ?_ | refine block_normal ?_ | refine xc_ret ?_ | refine then_ret ?_ | refine block_ret ?_ | refine xc_skip ?_ | refine xc_exit ?_ | refine then_exit ?_ | refine loopS_exit ?_ | refine loopS_ret ?_ | refine cutB_ret ?_ | refine cutN_ret ?_ | refine cutN_exit ?_ | refine block_exit ?_ | (refine block_other ?_ ?_; exact rfl) | (refine xc_true ?_ ?_; exact rfl) | (refine xc_false ?_ ?_; exact rfl) | ((with_reducible apply xs_guard); exact rfl; exact rfl; intro c hc; (fail_if_success (have : true = c := hc)); (fail_if_success (have : false = c := hc)); cases c) | (refine xc_if rfl (fun hc => ?_) (fun hc => ?_)) | (refine xc_cond rfl (fun hc => ?_) (fun hc => ?_)))
  first | refine rt (hq := ?_) | refine rt' (hq := ?_)
  exact ⟨rfl, hs.onlyF [] (by simp [h]) (by simp [D0])⟩
theorem yes_ret (y : Int) (w0 : World) : Ret Try.prog 19 #[.int .i64 y] w0 fun v w' => v = .bool true ∧ Only [] w0 w' := by
  have hs := St.nil w0
  refine ret_of_xc Try.func19 (by kernel_rfl) rfl Try.ntmps19 rfl rfl rfl ?_
  repeat' (first | refine vs (k := ?_) | refine ps (k := ?_) | (refine st hs (k := ?_); intro w hs) | (refine stA hs (k := ?_); intro w hs) | (refine al hs (k := ?_); intro b w hz hs) | (refine bx hs (k := ?_); intro b w hz hs) | (refine bs hs (k := ?_); intro b w hz hs) | refine XS.nil ?_ | refine then_of ?_ | refine xc_seq ?_ | (refine xc_region ?_ ?_; exact rfl) | refine xc_block ?_ | refine block_normal ?_ | refine xc_ret ?_ | refine then_ret ?_ | refine block_ret ?_ | refine xc_skip ?_ | refine xc_exit ?_ | refine then_exit ?_ | refine loopS_exit ?_ | refine loopS_ret ?_ | refine cutB_ret ?_ | refine cutN_ret ?_ | refine cutN_exit ?_ | refine block_exit ?_ | (refine block_other ?_ ?_; exact rfl) | (refine xc_true ?_ ?_; exact rfl) | (refine xc_false ?_ ?_; exact rfl) | ((with_reducible apply xs_guard); exact rfl; exact rfl; intro c hc; (fail_if_success (have : true = c := hc)); (fail_if_success (have : false = c := hc)); cases c) | (refine xc_if rfl (fun hc => ?_) (fun hc => ?_)) | (refine xc_cond rfl (fun hc => ?_) (fun hc => ?_)))
  first | refine rt (hq := ?_) | refine rt' (hq := ?_)
  exact ⟨rfl, hs.only0 rfl⟩
theorem no_ret (y : Int) (w0 : World) : Ret Try.prog 20 #[.int .i64 y] w0 fun v w' => v = .bool false ∧ Only [] w0 w' := by
  have hs := St.nil w0
  refine ret_of_xc Try.func20 (by kernel_rfl) rfl Try.ntmps20 rfl rfl rfl ?_
  repeat' (first | refine vs (k := ?_) | refine ps (k := ?_) | (refine st hs (k := ?_); intro w hs) | (refine stA hs (k := ?_); intro w hs) | (refine al hs (k := ?_); intro b w hz hs) | (refine bx hs (k := ?_); intro b w hz hs) | (refine bs hs (k := ?_); intro b w hz hs) | refine XS.nil ?_ | refine then_of ?_ | refine xc_seq ?_ | (refine xc_region ?_ ?_; exact rfl) | refine xc_block ?_ | refine block_normal ?_ | refine xc_ret ?_ | refine then_ret ?_ | refine block_ret ?_ | refine xc_skip ?_ | refine xc_exit ?_ | refine then_exit ?_ | refine loopS_exit ?_ | refine loopS_ret ?_ | refine cutB_ret ?_ | refine cutN_ret ?_ | refine cutN_exit ?_ | refine block_exit ?_ | (refine block_other ?_ ?_; exact rfl) | (refine xc_true ?_ ?_; exact rfl) | (refine xc_false ?_ ?_; exact rfl) | ((with_reducible apply xs_guard); exact rfl; exact rfl; intro c hc; (fail_if_success (have : true = c := hc)); (fail_if_success (have : false = c := hc)); cases c) | (refine xc_if rfl (fun hc => ?_) (fun hc => ?_)) | (refine xc_cond rfl (fun hc => ?_) (fun hc => ?_)))
  first | refine rt (hq := ?_) | refine rt' (hq := ?_)
  exact ⟨rfl, hs.only0 rfl⟩
/-- A slice of numbers that came in. -/
def LAt (w : World) (sl : Value) (ds : List Int) : Prop :=
  ∃ ad cap, sl = .slice ad ds.length cap ∧ (ds ≠ [] → ∃ (b off : Nat) (cs : List Value) (E : TypeId) (fz : Nat × Nat), ad = some ⟨b, off, none⟩ ∧ w.heap[b]? = some (.cells cs.toArray E fz) ∧ ∀ (i : Nat) (d : Int), ds[i]? = some d → cs[off + i]? = some (.int .i64 d))
/-- The two trees on their way. -/
structure Two (w0 : World) (eb : Nat) (e : Int) (l : List Int) (ta tb i : Nat) (xa xb : List Int) (Fa Fb : List Nat) (w : World) : Prop where
  a : Set6 w ta xa Fa
  b : Set6 w tb xb Fb
  d : ∀ k ∈ Fa, k ∉ Fb
  na : New w0 Fa
  nb : New w0 Fb
  o : Only [] w0 w
  e : w.heap[eb]? = some (intO e)
  ma : ∀ z, z ∈ xa ↔ z ∈ l.take i
  mb : ∀ z, z ∈ xb ↔ z ∈ l.drop (l.length - i)
  la : xa.length ≤ i
  lb : xb.length ≤ i
theorem Two.only {w0 w w' : World} {eb : Nat} {e : Int} {l : List Int} {ta tb i : Nat} {xa xb : List Int} {Fa Fb : List Nat} (h : Two w0 eb e l ta tb i xa xb Fa Fb w) (ho : Only [] w w') : Two w0 eb e l ta tb i xa xb Fa Fb w' :=
  ⟨h.a.only ho, h.b.only ho, h.d, h.na, h.nb, h.o.step ho (by simp), ho.block h.e (by simp), h.ma, h.mb, h.la, h.lb⟩
set_option maxHeartbeats 4000000 in
theorem rbtreeFolds_ret (l : List Int) (sl : Value) (e : Int) (w0 : World) (hL : LAt w0 sl l) : Ret Try.prog 3 #[sl, .int .i64 e] w0 fun v w' => v = .bool true ∧ Only [] w0 w' := by
  obtain ⟨ad, cap, rfl, hD⟩ := hL
  have hs := St.nil w0
  refine ret_of_xc Try.func3 (by kernel_rfl) rfl Try.ntmps3 rfl rfl rfl ?_
  repeat' (first | refine vs (k := ?_) | refine ps (k := ?_) | (refine st hs (k := ?_); intro w hs) | (refine stA hs (k := ?_); intro w hs) | (refine al hs (k := ?_); intro b w hz hs) | (refine bx hs (k := ?_); intro b w hz hs) | (refine bs hs (k := ?_); intro b w hz hs) | refine XS.nil ?_ | refine then_of ?_ | refine xc_seq ?_ | refine xc_block ?_ | refine block_normal ?_ | refine xc_ret ?_ | refine then_ret ?_ | refine block_ret ?_ | refine xc_skip ?_ | refine xc_exit ?_ | refine then_exit ?_ | refine loopS_exit ?_ | refine loopS_ret ?_ | refine cutB_ret ?_ | refine cutN_ret ?_ | refine cutN_exit ?_ | refine block_exit ?_ | (refine block_other ?_ ?_; exact rfl) | (refine xc_true ?_ ?_; exact rfl) | (refine xc_false ?_ ?_; exact rfl) | ((with_reducible apply xs_guard); exact rfl; exact rfl; intro c hc; (fail_if_success (have : true = c := hc)); (fail_if_success (have : false = c := hc)); cases c) | (refine xc_if rfl (fun hc => ?_) (fun hc => ?_)) | (refine xc_cond rfl (fun hc => ?_) (fun hc => ?_)))
  refine xc_region ?_ ?_; exact rfl
  refine bx hs (k := ?_); intro eb w hz hs
  repeat' (first | refine vs (k := ?_) | refine ps (k := ?_) | (refine st hs (k := ?_); intro w hs) | (refine stA hs (k := ?_); intro w hs) | (refine al hs (k := ?_); intro b w hz hs) | (refine bx hs (k := ?_); intro b w hz hs) | (refine bs hs (k := ?_); intro b w hz hs) | refine XS.nil ?_ | refine then_of ?_ | refine xc_seq ?_ | (refine xc_region ?_ ?_; exact rfl) | refine xc_block ?_ | refine block_normal ?_ | refine xc_ret ?_ | refine then_ret ?_ | refine block_ret ?_ | refine xc_skip ?_ | refine xc_exit ?_ | refine then_exit ?_ | refine loopS_exit ?_ | refine loopS_ret ?_ | refine cutB_ret ?_ | refine cutN_ret ?_ | refine cutN_exit ?_ | refine block_exit ?_ | (refine block_other ?_ ?_; exact rfl) | (refine xc_true ?_ ?_; exact rfl) | (refine xc_false ?_ ?_; exact rfl) | ((with_reducible apply xs_guard); exact rfl; exact rfl; intro c hc; (fail_if_success (have : true = c := hc)); (fail_if_success (have : false = c := hc)); cases c) | (refine xc_if rfl (fun hc => ?_) (fun hc => ?_)) | (refine xc_cond rfl (fun hc => ?_) (fun hc => ?_)))
  (with_reducible apply xs_call); exact rfl; exact rfl; exact awake6_ret _
  rintro v w' ⟨rfl, ho⟩; replace hs := hs.call0 ho
  repeat' (first | refine vs (k := ?_) | refine ps (k := ?_) | (refine st hs (k := ?_); intro w hs) | (refine stA hs (k := ?_); intro w hs) | (refine al hs (k := ?_); intro b w hz hs) | (refine bx hs (k := ?_); intro b w hz hs) | (refine bs hs (k := ?_); intro b w hz hs) | refine XS.nil ?_ | refine then_of ?_ | refine xc_seq ?_ | (refine xc_region ?_ ?_; exact rfl) | refine xc_block ?_ | refine block_normal ?_ | refine xc_ret ?_ | refine then_ret ?_ | refine block_ret ?_ | refine xc_skip ?_ | refine xc_exit ?_ | refine then_exit ?_ | refine loopS_exit ?_ | refine loopS_ret ?_ | refine cutB_ret ?_ | refine cutN_ret ?_ | refine cutN_exit ?_ | refine block_exit ?_ | (refine block_other ?_ ?_; exact rfl) | (refine xc_true ?_ ?_; exact rfl) | (refine xc_false ?_ ?_; exact rfl) | ((with_reducible apply xs_guard); exact rfl; exact rfl; intro c hc; (fail_if_success (have : true = c := hc)); (fail_if_success (have : false = c := hc)); cases c) | (refine xc_if rfl (fun hc => ?_) (fun hc => ?_)) | (refine xc_cond rfl (fun hc => ?_) (fun hc => ?_)))
  · first | refine rt (hq := ?_) | refine rt' (hq := ?_)
    exact ⟨rfl, hs.only0 rfl⟩
  · have hlen : l.length ≤ 200 := by omega
    have oA := hs.only0 rfl
    have hEb := hs.get At.head
    have hEn := hs.new (eb, true) (by simp) rfl
    (with_reducible apply xs_call); exact rfl; exact rfl; exact setNew_ret _
    rintro v w1 ⟨ta, Fa, rfl, ha0, hna, ho⟩
    have oB := oA.step ho (by simp)
    have hEb := ho.block hEb (by simp)
    have na0 : New w0 Fa := fun k hk => Nat.le_trans oA.size (hna k hk)
    clear hs
    have hs := St.nil w1
    repeat' (first | refine vs (k := ?_) | refine ps (k := ?_) | (refine st hs (k := ?_); intro w hs) | (refine stA hs (k := ?_); intro w hs) | (refine al hs (k := ?_); intro b w hz hs) | (refine bx hs (k := ?_); intro b w hz hs) | (refine bs hs (k := ?_); intro b w hz hs) | refine XS.nil ?_ | refine then_of ?_ | refine xc_seq ?_ | (refine xc_region ?_ ?_; exact rfl) | refine xc_block ?_ | refine block_normal ?_ | refine xc_ret ?_ | refine then_ret ?_ | refine block_ret ?_ | refine xc_skip ?_ | refine xc_exit ?_ | refine then_exit ?_ | refine loopS_exit ?_ | refine loopS_ret ?_ | refine cutB_ret ?_ | refine cutN_ret ?_ | refine cutN_exit ?_ | refine block_exit ?_ | (refine block_other ?_ ?_; exact rfl) | (refine xc_true ?_ ?_; exact rfl) | (refine xc_false ?_ ?_; exact rfl) | ((with_reducible apply xs_guard); exact rfl; exact rfl; intro c hc; (fail_if_success (have : true = c := hc)); (fail_if_success (have : false = c := hc)); cases c) | (refine xc_if rfl (fun hc => ?_) (fun hc => ?_)) | (refine xc_cond rfl (fun hc => ?_) (fun hc => ?_)))
    (with_reducible apply xs_call); exact rfl; exact rfl; exact setNew_ret _
    rintro v w2 ⟨tb, Fb, rfl, hb0, hnb, ho⟩
    have ho1 := hs.only0 rfl
    have ho2 := ho1.step ho (by simp)
    have ha1 := ha0.only ho2
    have hEb := ho2.block hEb (by simp)
    have oC := oB.step ho2 (by simp)
    have nb0 : New w0 Fb := fun k hk => Nat.le_trans (Nat.le_trans oB.size ho1.size) (hnb k hk)
    have d0 : ∀ k ∈ Fa, k ∉ Fb := fun k hk hm => by
      have h1 := ha0.lt k hk
      have h2 := hnb k hm
      have := ho1.size
      omega
    have hT0 : Two w0 eb e l ta tb 0 [] [] Fa Fb w2 := ⟨ha1, hb0, d0, na0, nb0, oC, hEb, by simp, by simp, Nat.le_refl _, Nat.le_refl _⟩
    clear hs ha0 hb0 ha1 hna hnb
    have hs := St.nil w2
    repeat' (first | refine vs (k := ?_) | refine ps (k := ?_) | (refine st hs (k := ?_); intro w hs) | (refine stA hs (k := ?_); intro w hs) | (refine al hs (k := ?_); intro b w hz hs) | (refine bx hs (k := ?_); intro b w hz hs) | (refine bs hs (k := ?_); intro b w hz hs) | refine XS.nil ?_ | refine then_of ?_ | refine xc_seq ?_ | (refine xc_region ?_ ?_; exact rfl) | refine xc_block ?_ | refine block_normal ?_ | refine xc_ret ?_ | refine then_ret ?_ | refine block_ret ?_ | refine xc_skip ?_ | refine xc_exit ?_ | refine then_exit ?_ | refine loopS_exit ?_ | refine loopS_ret ?_ | refine cutB_ret ?_ | refine cutN_ret ?_ | refine cutN_exit ?_ | refine block_exit ?_ | (refine block_other ?_ ?_; exact rfl) | (refine xc_true ?_ ?_; exact rfl) | (refine xc_false ?_ ?_; exact rfl) | ((with_reducible apply xs_guard); exact rfl; exact rfl; intro c hc; (fail_if_success (have : true = c := hc)); (fail_if_success (have : false = c := hc)); cases c) | (refine xc_if rfl (fun hc => ?_) (fun hc => ?_)) | (refine xc_cond rfl (fun hc => ?_) (fun hc => ?_)))
    refine xc_cutB (fun _ : Unit => [(0, .slice ad l.length cap), (3, .pointer (some ⟨eb, 0, none⟩)), (4, .bool false), (5, .pointer (some ⟨ta, 0, none⟩)), (6, .pointer (some ⟨tb, 0, none⟩))])
      (fun _ w => ∃ xs Fa Fb, Two w0 eb e l ta tb l.length xs xs Fa Fb w) ?_ ?_
    · refine xc_loopS (fun (s : Nat × List Int × List Int × List Nat × List Nat) => [(0, .slice ad l.length cap), (3, .pointer (some ⟨eb, 0, none⟩)), (4, .bool false), (5, .pointer (some ⟨ta, 0, none⟩)), (6, .pointer (some ⟨tb, 0, none⟩)), (27, .slice ad l.length cap), (28, .int .i64 (l.length : Nat)), (29, .int .i64 (s.1 : Nat))])
        (fun s w => s.1 ≤ l.length ∧ Two w0 eb e l ta tb s.1 s.2.1 s.2.2.1 s.2.2.2.1 s.2.2.2.2 w)
        (fun s => l.length - s.1) (0, [], [], Fa, Fb) (by (repeat (first | exact agree_nil | (apply agree_cons; exact rfl)))) ⟨Nat.zero_le _, hT0.only (hs.only0 rfl)⟩ fun s env w3 ⟨hi, h2⟩ => ?_
      clear hs hT0
      obtain ⟨i, xa, xb, Fa, Fb⟩ := s
      dsimp only at hi h2 ⊢
      have hs := St.nil w3
      repeat' (first | refine vs (k := ?_) | refine ps (k := ?_) | (refine st hs (k := ?_); intro w hs) | (refine stA hs (k := ?_); intro w hs) | (refine al hs (k := ?_); intro b w hz hs) | (refine bx hs (k := ?_); intro b w hz hs) | (refine bs hs (k := ?_); intro b w hz hs) | refine XS.nil ?_ | refine then_of ?_ | refine xc_seq ?_ | (refine xc_region ?_ ?_; exact rfl) | refine xc_block ?_ | refine block_normal ?_ | refine xc_ret ?_ | refine then_ret ?_ | refine block_ret ?_ | refine xc_skip ?_ | refine xc_exit ?_ | refine then_exit ?_ | refine loopS_exit ?_ | refine loopS_ret ?_ | refine cutB_ret ?_ | refine cutN_ret ?_ | refine cutN_exit ?_ | refine block_exit ?_ | (refine block_other ?_ ?_; exact rfl) | (refine xc_true ?_ ?_; exact rfl) | (refine xc_false ?_ ?_; exact rfl) | ((with_reducible apply xs_guard); exact rfl; exact rfl; intro c hc; (fail_if_success (have : true = c := hc)); (fail_if_success (have : false = c := hc)); cases c) | (refine xc_if rfl (fun hc => ?_) (fun hc => ?_)) | (refine xc_cond rfl (fun hc => ?_) (fun hc => ?_)))
      · have hlt : i < l.length := by omega
        have hlt2 : l.length - 1 - i < l.length := by omega
        obtain ⟨b, off, cs, E, fz, rfl, hb, hcs⟩ := hD (fun h => by subst h; cases hlt)
        have g0 := hcs i _ (List.getElem?_eq_getElem hlt)
        have g1 := hcs (l.length - 1 - i) _ (List.getElem?_eq_getElem hlt2)
        have m0 : ∀ z, z ∈ l.take (i + 1) ↔ z = l[i] ∨ z ∈ l.take i := fun z => by
          rw [List.take_add_one, List.getElem?_eq_getElem hlt]
          simp only [Option.toList, List.mem_append, List.mem_singleton]
          exact Or.comm
        have m1 : ∀ z, z ∈ l.drop (l.length - (i + 1)) ↔ z = l[l.length - 1 - i] ∨ z ∈ l.drop (l.length - i) := fun z => by
          have e1 : l.length - (i + 1) = l.length - 1 - i := by omega
          have e2 : l.length - i = l.length - 1 - i + 1 := by omega
          rw [e1, e2, List.drop_eq_getElem_cons hlt2, List.mem_cons]
        generalize l[i] = x at *
        generalize l[l.length - 1 - i] = y at *
        have ei : IntKind.i64.wrap ((i : Int) + 1) = ((i + 1 : Nat) : Int) := next64' hlt (by omega)
        refine ix (h0 := (by omega)) (h1 := (by omega)) (k := ?_)
        refine lh (h2.o.block hb (by simp)) (v := .int .i64 x) (show cs[off + ((i : Nat) : Int).toNat * 1]? = some (.int .i64 x) by simpa using g0) (k := ?_)
        repeat' (first | refine vs (k := ?_) | refine ps (k := ?_) | (refine st hs (k := ?_); intro w hs) | (refine stA hs (k := ?_); intro w hs) | (refine al hs (k := ?_); intro b w hz hs) | (refine bx hs (k := ?_); intro b w hz hs) | (refine bs hs (k := ?_); intro b w hz hs) | refine XS.nil ?_ | refine then_of ?_ | refine xc_seq ?_ | (refine xc_region ?_ ?_; exact rfl) | refine xc_block ?_ | refine block_normal ?_ | refine xc_ret ?_ | refine then_ret ?_ | refine block_ret ?_ | refine xc_skip ?_ | refine xc_exit ?_ | refine then_exit ?_ | refine loopS_exit ?_ | refine loopS_ret ?_ | refine cutB_ret ?_ | refine cutN_ret ?_ | refine cutN_exit ?_ | refine block_exit ?_ | (refine block_other ?_ ?_; exact rfl) | (refine xc_true ?_ ?_; exact rfl) | (refine xc_false ?_ ?_; exact rfl) | ((with_reducible apply xs_guard); exact rfl; exact rfl; intro c hc; (fail_if_success (have : true = c := hc)); (fail_if_success (have : false = c := hc)); cases c) | (refine xc_if rfl (fun hc => ?_) (fun hc => ?_)) | (refine xc_cond rfl (fun hc => ?_) (fun hc => ?_)))
        have ho3 := hs.only0 rfl
        have h3 := h2.only ho3
        have hla := h3.la
        have hlb := h3.lb
        (with_reducible apply xs_call); exact rfl; exact rfl; exact setInsert_ret ta xa Fa x _ h3.a (by omega)
        rintro v w4 ⟨rfl, Fa', k1, k2, k3⟩
        have h4 : Two w0 eb e l ta tb i (insS x xa) xb Fa' Fb w4 ∨ True := .inr trivial
        have hbK := h3.b.keep k3 h3.a.noInt (fun b hb hm => h3.d b hm hb)
        have dK : ∀ k ∈ Fa', k ∉ Fb := fun k hk hm => by
          rcases k2 k hk with h | h
          · exact h3.d k h hm
          · have := h3.b.lt k hm; omega
        have eK := k3.block h3.e (fun hm => h3.a.noInt eb hm _ _ h3.e)
        have naK := h3.na.step h3.o k2
        have oK := h3.o.news h3.na k3
        have nbK := h3.nb
        have maK : ∀ z, z ∈ insS x xa ↔ z ∈ l.take (i + 1) := fun z => by rw [mem_insS, m0, h3.ma]
        have mbK := h3.mb
        have laK : (insS x xa).length ≤ i + 1 := by have := insS_len x xa; omega
        clear h4 h2 h3 hs
        have hs := St.nil w4
        generalize insS x xa = xa' at *
        repeat' (first | refine vs (k := ?_) | refine ps (k := ?_) | (refine st hs (k := ?_); intro w hs) | (refine stA hs (k := ?_); intro w hs) | (refine al hs (k := ?_); intro b w hz hs) | (refine bx hs (k := ?_); intro b w hz hs) | (refine bs hs (k := ?_); intro b w hz hs) | refine XS.nil ?_ | refine then_of ?_ | refine xc_seq ?_ | (refine xc_region ?_ ?_; exact rfl) | refine xc_block ?_ | refine block_normal ?_ | refine xc_ret ?_ | refine then_ret ?_ | refine block_ret ?_ | refine xc_skip ?_ | refine xc_exit ?_ | refine then_exit ?_ | refine loopS_exit ?_ | refine loopS_ret ?_ | refine cutB_ret ?_ | refine cutN_ret ?_ | refine cutN_exit ?_ | refine block_exit ?_ | (refine block_other ?_ ?_; exact rfl) | (refine xc_true ?_ ?_; exact rfl) | (refine xc_false ?_ ?_; exact rfl) | ((with_reducible apply xs_guard); exact rfl; exact rfl; intro c hc; (fail_if_success (have : true = c := hc)); (fail_if_success (have : false = c := hc)); cases c) | (refine xc_if rfl (fun hc => ?_) (fun hc => ?_)) | (refine xc_cond rfl (fun hc => ?_) (fun hc => ?_)))
        have en : IntKind.i64.wrap (IntKind.i64.wrap ((l.length : Nat) - 1) - i) = ((l.length - 1 - i : Nat) : Int) := by
          rw [i64_small (n := ((l.length : Nat) : Int) - 1) (by omega) (by omega), i64_small (by omega) (by omega)]
          omega
        rw [en]
        refine ix (h0 := (by omega)) (h1 := (by omega)) (k := ?_)
        refine lh (oK.block hb (by simp)) (v := .int .i64 y) (show cs[off + ((l.length - 1 - i : Nat) : Int).toNat * 1]? = some (.int .i64 y) by simpa using g1) (k := ?_)
        have ho3 := hs.only0 rfl
        (with_reducible apply xs_call); exact rfl; exact rfl; exact setInsert_ret tb xb Fb y _ (hbK.only ho3) (by omega)
        rintro v w5 ⟨rfl, Fb', j1, j2, j3⟩
        have o5 := oK.step ho3 (by simp)
        have lbK : (insS y xb).length ≤ i + 1 := by have := insS_len y xb; omega
        have k1' := k1.only ho3
        have hbK' := hbK.only ho3
        have hsz := ho3.size
        clear hs
        have hs := St.nil w5
        repeat' (first | refine vs (k := ?_) | refine ps (k := ?_) | (refine st hs (k := ?_); intro w hs) | (refine stA hs (k := ?_); intro w hs) | (refine al hs (k := ?_); intro b w hz hs) | (refine bx hs (k := ?_); intro b w hz hs) | (refine bs hs (k := ?_); intro b w hz hs) | refine XS.nil ?_ | refine then_of ?_ | refine xc_seq ?_ | (refine xc_region ?_ ?_; exact rfl) | refine xc_block ?_ | refine block_normal ?_ | refine xc_ret ?_ | refine then_ret ?_ | refine block_ret ?_ | refine xc_skip ?_ | refine xc_exit ?_ | refine then_exit ?_ | refine loopS_exit ?_ | refine loopS_ret ?_ | refine cutB_ret ?_ | refine cutN_ret ?_ | refine cutN_exit ?_ | refine block_exit ?_ | (refine block_other ?_ ?_; exact rfl) | (refine xc_true ?_ ?_; exact rfl) | (refine xc_false ?_ ?_; exact rfl) | ((with_reducible apply xs_guard); exact rfl; exact rfl; intro c hc; (fail_if_success (have : true = c := hc)); (fail_if_success (have : false = c := hc)); cases c) | (refine xc_if rfl (fun hc => ?_) (fun hc => ?_)) | (refine xc_cond rfl (fun hc => ?_) (fun hc => ?_)))
        refine loopS_next (i + 1, xa', insS y xb, Fa', Fb') (by dsimp only; omega) (by (repeat (first | exact agree_nil | (apply agree_cons; first | exact rfl | exact congrArg (Value.int .i64) ei)))) ⟨by dsimp only; omega, Two.only ⟨k1'.keep j3 hbK'.noInt dK, j1, ?_, naK, nbK.step o5 j2, o5.news nbK j3, j3.block (ho3.block eK (by simp)) (fun hm => hbK'.noInt eb hm _ _ (ho3.block eK (by simp))), maK, fun z => by rw [mem_insS, m1, mbK], laK, lbK⟩ (hs.only0 rfl)⟩
        intro k hk hm
        rcases j2 k hm with h | h
        · exact dK k hk h
        · have := k1'.lt k hk; omega
      · have e1 : i = l.length := by omega
        subst e1
        have exy : xa = xb := srt_ext h2.a.srt h2.b.srt fun z => by
          rw [h2.ma, h2.mb]
          simp
        subst exy
        exact cutB_exit () (by (repeat (first | exact agree_nil | (apply agree_cons; exact rfl)))) ⟨xa, Fa, Fb, h2.only (hs.only0 rfl)⟩
    · clear hs hT0
      rintro _ env w3 ⟨xs, Fa, Fb, h3⟩
      have hxl : xs.length ≤ 200 := by have := h3.la; omega
      have hdq : Down fun y => decide (y ≤ e) := fun a b h k => by simp only [decide_eq_true_eq] at *; omega
      have et : xs.filter (fun _ => true) = xs := List.filter_eq_self.2 fun _ _ => rfl
      have ef : xs.filter (fun _ => false) = [] := List.filter_eq_nil_iff.2 fun _ _ h => by cases h
      have h3e := h3.e
      have hs := St.nil w3
      repeat' (first | refine vs (k := ?_) | refine ps (k := ?_) | (refine st hs (k := ?_); intro w hs) | (refine stA hs (k := ?_); intro w hs) | (refine al hs (k := ?_); intro b w hz hs) | (refine bx hs (k := ?_); intro b w hz hs) | (refine bs hs (k := ?_); intro b w hz hs) | refine XS.nil ?_ | refine then_of ?_ | refine xc_seq ?_ | (refine xc_region ?_ ?_; exact rfl) | refine xc_block ?_ | refine block_normal ?_ | refine xc_ret ?_ | refine then_ret ?_ | refine block_ret ?_ | refine xc_skip ?_ | refine xc_exit ?_ | refine then_exit ?_ | refine loopS_exit ?_ | refine loopS_ret ?_ | refine cutB_ret ?_ | refine cutN_ret ?_ | refine cutN_exit ?_ | refine block_exit ?_ | (refine block_other ?_ ?_; exact rfl) | (refine xc_true ?_ ?_; exact rfl) | (refine xc_false ?_ ?_; exact rfl) | ((with_reducible apply xs_guard); exact rfl; exact rfl; intro c hc; (fail_if_success (have : true = c := hc)); (fail_if_success (have : false = c := hc)); cases c) | (refine xc_if rfl (fun hc => ?_) (fun hc => ?_)) | (refine xc_cond rfl (fun hc => ?_) (fun hc => ?_)))
      (with_reducible apply xs_call); exact rfl; exact rfl; exact setFold_ret ta xs Fa _ (h3.a.only (hs.only0 rfl)) 17 [.pointer (some ⟨eb, 0, none⟩)] (fun y => decide (y ≤ e)) hdq (fun w => w.heap[eb]? = some (intO e)) ((hs.only0 rfl).block h3e (by simp)) (fun w o => o.block ((hs.only0 rfl).block h3e (by simp)) (by simp)) (fun y w hw => le1_ret e eb y w hw) (by omega)
      rintro v w' ⟨⟨va, rfl, hv1⟩, ho⟩; replace hs := hs.call0 ho
      obtain ⟨ad1, cp1, rfl, _⟩ := id hv1
      obtain ⟨R1, hs, hv1⟩ := (hv1).read hs rfl
      repeat' (first | refine vs (k := ?_) | refine ps (k := ?_) | (refine st hs (k := ?_); intro w hs) | (refine stA hs (k := ?_); intro w hs) | (refine al hs (k := ?_); intro b w hz hs) | (refine bx hs (k := ?_); intro b w hz hs) | (refine bs hs (k := ?_); intro b w hz hs) | refine XS.nil ?_ | refine then_of ?_ | refine xc_seq ?_ | (refine xc_region ?_ ?_; exact rfl) | refine xc_block ?_ | refine block_normal ?_ | refine xc_ret ?_ | refine then_ret ?_ | refine block_ret ?_ | refine xc_skip ?_ | refine xc_exit ?_ | refine then_exit ?_ | refine loopS_exit ?_ | refine loopS_ret ?_ | refine cutB_ret ?_ | refine cutN_ret ?_ | refine cutN_exit ?_ | refine block_exit ?_ | (refine block_other ?_ ?_; exact rfl) | (refine xc_true ?_ ?_; exact rfl) | (refine xc_false ?_ ?_; exact rfl) | ((with_reducible apply xs_guard); exact rfl; exact rfl; intro c hc; (fail_if_success (have : true = c := hc)); (fail_if_success (have : false = c := hc)); cases c) | (refine xc_if rfl (fun hc => ?_) (fun hc => ?_)) | (refine xc_cond rfl (fun hc => ?_) (fun hc => ?_)))
      (with_reducible apply xs_call); exact rfl; exact rfl; exact setFold_ret tb xs Fb _ (h3.b.only (hs.only0 rfl)) 18 [.pointer (some ⟨eb, 0, none⟩)] (fun y => decide (y ≤ e)) hdq (fun w => w.heap[eb]? = some (intO e)) ((hs.only0 rfl).block h3e (by simp)) (fun w o => o.block ((hs.only0 rfl).block h3e (by simp)) (by simp)) (fun y w hw => le2_ret e eb y w hw) (by omega)
      rintro v w' ⟨⟨va, rfl, hv2⟩, ho⟩; replace hs := hs.call0 ho
      obtain ⟨ad2, cp2, rfl, _⟩ := id hv2
      obtain ⟨R2, hs, hv2⟩ := (hv2).read hs rfl
      repeat' (first | refine vs (k := ?_) | refine ps (k := ?_) | (refine st hs (k := ?_); intro w hs) | (refine stA hs (k := ?_); intro w hs) | (refine al hs (k := ?_); intro b w hz hs) | (refine bx hs (k := ?_); intro b w hz hs) | (refine bs hs (k := ?_); intro b w hz hs) | refine XS.nil ?_ | refine then_of ?_ | refine xc_seq ?_ | (refine xc_region ?_ ?_; exact rfl) | refine xc_block ?_ | refine block_normal ?_ | refine xc_ret ?_ | refine then_ret ?_ | refine block_ret ?_ | refine xc_skip ?_ | refine xc_exit ?_ | refine then_exit ?_ | refine loopS_exit ?_ | refine loopS_ret ?_ | refine cutB_ret ?_ | refine cutN_ret ?_ | refine cutN_exit ?_ | refine block_exit ?_ | (refine block_other ?_ ?_; exact rfl) | (refine xc_true ?_ ?_; exact rfl) | (refine xc_false ?_ ?_; exact rfl) | ((with_reducible apply xs_guard); exact rfl; exact rfl; intro c hc; (fail_if_success (have : true = c := hc)); (fail_if_success (have : false = c := hc)); cases c) | (refine xc_if rfl (fun hc => ?_) (fun hc => ?_)) | (refine xc_cond rfl (fun hc => ?_) (fun hc => ?_)))
      have c3 := fun w h => setFold_ret ta xs Fa w h 19 [] (fun _ => true) (fun _ _ _ _ => rfl) (fun _ => True) trivial (fun _ _ => trivial) (fun y w _ => yes_ret y w) (by omega)
      rw [et] at c3
      (with_reducible apply xs_call); exact rfl; exact rfl; exact c3 _ (h3.a.only (hs.only0 rfl))
      rintro v w' ⟨⟨va, rfl, hv3⟩, ho⟩; replace hs := hs.call0 ho
      obtain ⟨ad3, cp3, rfl, _⟩ := id hv3
      obtain ⟨R3, hs, hv3⟩ := (hv3).read hs rfl
      repeat' (first | refine vs (k := ?_) | refine ps (k := ?_) | (refine st hs (k := ?_); intro w hs) | (refine stA hs (k := ?_); intro w hs) | (refine al hs (k := ?_); intro b w hz hs) | (refine bx hs (k := ?_); intro b w hz hs) | (refine bs hs (k := ?_); intro b w hz hs) | refine XS.nil ?_ | refine then_of ?_ | refine xc_seq ?_ | (refine xc_region ?_ ?_; exact rfl) | refine xc_block ?_ | refine block_normal ?_ | refine xc_ret ?_ | refine then_ret ?_ | refine block_ret ?_ | refine xc_skip ?_ | refine xc_exit ?_ | refine then_exit ?_ | refine loopS_exit ?_ | refine loopS_ret ?_ | refine cutB_ret ?_ | refine cutN_ret ?_ | refine cutN_exit ?_ | refine block_exit ?_ | (refine block_other ?_ ?_; exact rfl) | (refine xc_true ?_ ?_; exact rfl) | (refine xc_false ?_ ?_; exact rfl) | ((with_reducible apply xs_guard); exact rfl; exact rfl; intro c hc; (fail_if_success (have : true = c := hc)); (fail_if_success (have : false = c := hc)); cases c) | (refine xc_if rfl (fun hc => ?_) (fun hc => ?_)) | (refine xc_cond rfl (fun hc => ?_) (fun hc => ?_)))
      have c4 := fun w h => setFold_ret ta xs Fa w h 20 [] (fun _ => false) (fun _ _ _ h => h) (fun _ => True) trivial (fun _ _ => trivial) (fun y w _ => no_ret y w) (by omega)
      rw [ef, show decide (([] : List Int) ≠ []) = false by simp] at c4
      (with_reducible apply xs_call); exact rfl; exact rfl; exact c4 _ (h3.a.only (hs.only0 rfl))
      rintro v w' ⟨⟨va, rfl, hv4⟩, ho⟩; replace hs := hs.call0 ho
      obtain ⟨ad4, cp4, rfl, _⟩ := id hv4
      obtain ⟨R4, hs, hv4⟩ := (hv4).read hs rfl
      repeat' (first | refine vs (k := ?_) | refine ps (k := ?_) | (refine st hs (k := ?_); intro w hs) | (refine stA hs (k := ?_); intro w hs) | (refine al hs (k := ?_); intro b w hz hs) | (refine bx hs (k := ?_); intro b w hz hs) | (refine bs hs (k := ?_); intro b w hz hs) | refine XS.nil ?_ | refine then_of ?_ | refine xc_seq ?_ | (refine xc_region ?_ ?_; exact rfl) | refine xc_block ?_ | refine block_normal ?_ | refine xc_ret ?_ | refine then_ret ?_ | refine block_ret ?_ | refine xc_skip ?_ | refine xc_exit ?_ | refine then_exit ?_ | refine loopS_exit ?_ | refine loopS_ret ?_ | refine cutB_ret ?_ | refine cutN_ret ?_ | refine cutN_exit ?_ | refine block_exit ?_ | (refine block_other ?_ ?_; exact rfl) | (refine xc_true ?_ ?_; exact rfl) | (refine xc_false ?_ ?_; exact rfl) | ((with_reducible apply xs_guard); exact rfl; exact rfl; intro c hc; (fail_if_success (have : true = c := hc)); (fail_if_success (have : false = c := hc)); cases c) | (refine xc_if rfl (fun hc => ?_) (fun hc => ?_)) | (refine xc_cond rfl (fun hc => ?_) (fun hc => ?_)))
      (with_reducible apply xs_call); exact rfl; exact rfl; exact setAll_ret ta xs Fa _ (h3.a.only (hs.only0 rfl)) (by omega)
      rintro v w' ⟨hv5, ho⟩; replace hs := hs.call0 ho
      obtain ⟨ad5, cp5, rfl, _⟩ := id hv5
      obtain ⟨R5, hs, hv5⟩ := (hv5).read hs rfl
      repeat' (first | refine vs (k := ?_) | refine ps (k := ?_) | (refine st hs (k := ?_); intro w hs) | (refine stA hs (k := ?_); intro w hs) | (refine al hs (k := ?_); intro b w hz hs) | (refine bx hs (k := ?_); intro b w hz hs) | (refine bs hs (k := ?_); intro b w hz hs) | refine XS.nil ?_ | refine then_of ?_ | refine xc_seq ?_ | (refine xc_region ?_ ?_; exact rfl) | refine xc_block ?_ | refine block_normal ?_ | refine xc_ret ?_ | refine then_ret ?_ | refine block_ret ?_ | refine xc_skip ?_ | refine xc_exit ?_ | refine then_exit ?_ | refine loopS_exit ?_ | refine loopS_ret ?_ | refine cutB_ret ?_ | refine cutN_ret ?_ | refine cutN_exit ?_ | refine block_exit ?_ | (refine block_other ?_ ?_; exact rfl) | (refine xc_true ?_ ?_; exact rfl) | (refine xc_false ?_ ?_; exact rfl) | ((with_reducible apply xs_guard); exact rfl; exact rfl; intro c hc; (fail_if_success (have : true = c := hc)); (fail_if_success (have : false = c := hc)); cases c) | (refine xc_if rfl (fun hc => ?_) (fun hc => ?_)) | (refine xc_cond rfl (fun hc => ?_) (fun hc => ?_)))
      refine xc_cutB (fun _ : Unit => [(3, .pointer (some ⟨eb, 0, none⟩)), (4, .bool false), (5, .pointer (some ⟨ta, 0, none⟩)), (6, .pointer (some ⟨tb, 0, none⟩)), (9, .slice ad1 (xs.filter (fun y => decide (y ≤ e))).length cp1), (10, .bool (decide (xs.filter (fun y => decide (y ≤ e)) ≠ []))), (11, .slice ad2 (xs.filter (fun y => decide (y ≤ e))).length cp2), (12, .bool (decide (xs.filter (fun y => decide (y ≤ e)) ≠ []))), (13, .slice ad3 xs.length cp3), (14, .bool (decide (xs ≠ []))), (15, .slice ad4 ([] : List Int).length cp4), (16, .bool false), (17, .int .i64 ((xs.filter (fun y => decide (y ≤ e))).length : Nat))]) (fun _ w => St w3 ⟨[], R5 ++ (R4 ++ (R3 ++ (R2 ++ (R1 ++ []))))⟩ [] w) ?_ ?_
      · refine xc_loopS (fun (j : Nat) => [(3, .pointer (some ⟨eb, 0, none⟩)), (4, .bool false), (5, .pointer (some ⟨ta, 0, none⟩)), (6, .pointer (some ⟨tb, 0, none⟩)), (9, .slice ad1 (xs.filter (fun y => decide (y ≤ e))).length cp1), (10, .bool (decide (xs.filter (fun y => decide (y ≤ e)) ≠ []))), (11, .slice ad2 (xs.filter (fun y => decide (y ≤ e))).length cp2), (12, .bool (decide (xs.filter (fun y => decide (y ≤ e)) ≠ []))), (13, .slice ad3 xs.length cp3), (14, .bool (decide (xs ≠ []))), (15, .slice ad4 ([] : List Int).length cp4), (16, .bool false), (17, .int .i64 (((xs.take j).filter (fun y => decide (y ≤ e))).length : Nat)), (71, .slice ad5 xs.length cp5), (72, .int .i64 (xs.length : Nat)), (73, .int .i64 (j : Nat))])
          (fun j w => j ≤ xs.length ∧ St w3 ⟨[], R5 ++ (R4 ++ (R3 ++ (R2 ++ (R1 ++ []))))⟩ [] w)
          (fun j => xs.length - j) 0 (by (repeat (first | exact agree_nil | (apply agree_cons; exact rfl)))) ⟨Nat.zero_le _, hs⟩ fun j env w ⟨hj, hs⟩ => ?_
        repeat' (first | refine vs (k := ?_) | refine ps (k := ?_) | (refine st hs (k := ?_); intro w hs) | (refine stA hs (k := ?_); intro w hs) | (refine al hs (k := ?_); intro b w hz hs) | (refine bx hs (k := ?_); intro b w hz hs) | (refine bs hs (k := ?_); intro b w hz hs) | refine XS.nil ?_ | refine then_of ?_ | refine xc_seq ?_ | (refine xc_region ?_ ?_; exact rfl) | refine xc_block ?_ | refine block_normal ?_ | refine xc_ret ?_ | refine then_ret ?_ | refine block_ret ?_ | refine xc_skip ?_ | refine xc_exit ?_ | refine then_exit ?_ | refine loopS_exit ?_ | refine loopS_ret ?_ | refine cutB_ret ?_ | refine cutN_ret ?_ | refine cutN_exit ?_ | refine block_exit ?_ | (refine block_other ?_ ?_; exact rfl) | (refine xc_true ?_ ?_; exact rfl) | (refine xc_false ?_ ?_; exact rfl) | ((with_reducible apply xs_guard); exact rfl; exact rfl; intro c hc; (fail_if_success (have : true = c := hc)); (fail_if_success (have : false = c := hc)); cases c) | (refine xc_if rfl (fun hc => ?_) (fun hc => ?_)) | (refine xc_cond rfl (fun hc => ?_) (fun hc => ?_)))
        · have hlt : j < xs.length := by omega
          obtain ⟨_, _, e5, hd5⟩ := (hv5 _ (fun e he => hs.ro e (by simp [he])))
          cases e5
          obtain ⟨b5, off5, cs5, fz5, rfl, hcap5, hb5, hcs5⟩ := hd5 (fun h => by rw [h] at hlt; cases hlt)
          have g0 := hcs5 j _ (List.getElem?_eq_getElem hlt)
          have ht := List.take_add_one (l := xs) (i := j)
          rw [List.getElem?_eq_getElem hlt] at ht
          have hxj : ((xs.take (j + 1)).filter (fun y => decide (y ≤ e))).length = ((xs.take j).filter (fun y => decide (y ≤ e))).length + (if xs[j] ≤ e then 1 else 0) := by
            rw [ht, List.filter_append, List.length_append]
            congr 1
            by_cases hc : xs[j] ≤ e <;> simp [hc]
          have hle : ((xs.take j).filter (fun y => decide (y ≤ e))).length ≤ xs.length := Nat.le_trans (List.length_filter_le _ _) (by simp; omega)
          generalize xs[j] = z at *
          have ej : IntKind.i64.wrap ((j : Int) + 1) = ((j + 1 : Nat) : Int) := next64' hlt (by omega)
          refine ix (h0 := (by omega)) (h1 := (by omega)) (k := ?_)
          refine lh hb5 (v := .int .i64 z) (show cs5[off5 + ((j : Nat) : Int).toNat * 1]? = some (.int .i64 z) by simpa using g0) (k := ?_)
          repeat' (first | refine vs (k := ?_) | refine ps (k := ?_) | (refine st hs (k := ?_); intro w hs) | (refine stA hs (k := ?_); intro w hs) | (refine al hs (k := ?_); intro b w hz hs) | (refine bx hs (k := ?_); intro b w hz hs) | (refine bs hs (k := ?_); intro b w hz hs) | refine XS.nil ?_ | refine then_of ?_ | refine xc_seq ?_ | refine xc_block ?_ | refine block_normal ?_ | refine xc_ret ?_ | refine then_ret ?_ | refine block_ret ?_ | refine xc_skip ?_ | refine xc_exit ?_ | refine then_exit ?_ | refine loopS_exit ?_ | refine loopS_ret ?_ | refine cutB_ret ?_ | refine cutN_ret ?_ | refine cutN_exit ?_ | refine block_exit ?_ | (refine block_other ?_ ?_; exact rfl) | (refine xc_true ?_ ?_; exact rfl) | (refine xc_false ?_ ?_; exact rfl) | ((with_reducible apply xs_guard); exact rfl; exact rfl; intro c hc; (fail_if_success (have : true = c := hc)); (fail_if_success (have : false = c := hc)); cases c) | (refine xc_if rfl (fun hc => ?_) (fun hc => ?_)) | (refine xc_cond rfl (fun hc => ?_) (fun hc => ?_)))
          refine xc_region ?_ ?_; exact rfl
          refine vs (k := ?_)
          refine lh (cs := [.int .i64 e]) (off := 0) ((hs.only0 rfl).block h3e (by simp)) (v := .int .i64 e) (by rfl) (k := ?_)
          refine vs (k := ?_)
          generalize hqz : decide (z ≤ e) = qz
          cases qz
          · have hz := of_decide_eq_false hqz
            rw [if_neg hz, Nat.add_zero] at hxj
            repeat' (first | refine vs (k := ?_) | refine ps (k := ?_) | (refine st hs (k := ?_); intro w hs) | (refine stA hs (k := ?_); intro w hs) | (refine al hs (k := ?_); intro b w hz hs) | (refine bx hs (k := ?_); intro b w hz hs) | (refine bs hs (k := ?_); intro b w hz hs) | refine XS.nil ?_ | refine then_of ?_ | refine xc_seq ?_ | (refine xc_region ?_ ?_; exact rfl) | refine xc_block ?_ | refine block_normal ?_ | refine xc_ret ?_ | refine then_ret ?_ | refine block_ret ?_ | refine xc_skip ?_ | refine xc_exit ?_ | refine then_exit ?_ | refine loopS_exit ?_ | refine loopS_ret ?_ | refine cutB_ret ?_ | refine cutN_ret ?_ | refine cutN_exit ?_ | refine block_exit ?_ | (refine block_other ?_ ?_; exact rfl) | (refine xc_true ?_ ?_; exact rfl) | (refine xc_false ?_ ?_; exact rfl) | ((with_reducible apply xs_guard); exact rfl; exact rfl; intro c hc; (fail_if_success (have : true = c := hc)); (fail_if_success (have : false = c := hc)); cases c) | (refine xc_if rfl (fun hc => ?_) (fun hc => ?_)) | (refine xc_cond rfl (fun hc => ?_) (fun hc => ?_)))
            exact loopS_next (j + 1) (by omega) (by rw [hxj]; (repeat (first | exact agree_nil | (apply agree_cons; first | exact rfl | exact congrArg (Value.int .i64) ej)))) ⟨by omega, hs⟩
          · have hz := of_decide_eq_true hqz
            rw [if_pos hz] at hxj
            have en : IntKind.i64.wrap ((((xs.take j).filter (fun y => decide (y ≤ e))).length : Nat) + 1) = (((xs.take (j + 1)).filter (fun y => decide (y ≤ e))).length : Nat) := by
              rw [hxj, i64_small (by omega) (by omega)]; omega
            repeat' (first | refine vs (k := ?_) | refine ps (k := ?_) | (refine st hs (k := ?_); intro w hs) | (refine stA hs (k := ?_); intro w hs) | (refine al hs (k := ?_); intro b w hz hs) | (refine bx hs (k := ?_); intro b w hz hs) | (refine bs hs (k := ?_); intro b w hz hs) | refine XS.nil ?_ | refine then_of ?_ | refine xc_seq ?_ | (refine xc_region ?_ ?_; exact rfl) | refine xc_block ?_ | refine block_normal ?_ | refine xc_ret ?_ | refine then_ret ?_ | refine block_ret ?_ | refine xc_skip ?_ | refine xc_exit ?_ | refine then_exit ?_ | refine loopS_exit ?_ | refine loopS_ret ?_ | refine cutB_ret ?_ | refine cutN_ret ?_ | refine cutN_exit ?_ | refine block_exit ?_ | (refine block_other ?_ ?_; exact rfl) | (refine xc_true ?_ ?_; exact rfl) | (refine xc_false ?_ ?_; exact rfl) | ((with_reducible apply xs_guard); exact rfl; exact rfl; intro c hc; (fail_if_success (have : true = c := hc)); (fail_if_success (have : false = c := hc)); cases c) | (refine xc_if rfl (fun hc => ?_) (fun hc => ?_)) | (refine xc_cond rfl (fun hc => ?_) (fun hc => ?_)))
            exact loopS_next (j + 1) (by omega) (by (repeat (first | exact agree_nil | (apply agree_cons; first | exact rfl | exact congrArg (Value.int .i64) en | exact congrArg (Value.int .i64) ej)))) ⟨by omega, hs⟩
        · have ej : j = xs.length := by omega
          have et : xs.take j = xs := by rw [ej]; exact List.take_length
          rw [et]
          exact cutB_exit () (by (repeat (first | exact agree_nil | (apply agree_cons; exact rfl)))) hs
      · clear hs
        rintro _ env w hs
        have hne : decide (xs.filter (fun y => decide (y ≤ e)) ≠ []) = decide (((xs.filter (fun y => decide (y ≤ e))).length : Int) > 0) := by
          apply decide_eq_decide.2
          rw [← List.length_pos_iff]
          omega
        have hne2 : decide (xs ≠ []) = decide ((xs.length : Int) > 0) := by
          apply decide_eq_decide.2
          rw [← List.length_pos_iff]
          omega
        have htk := filter_take hdq h3.a.srt
        have hfl : (xs.filter (fun y => decide (y ≤ e))).length ≤ xs.length := List.length_filter_le _ _
        generalize hB : decide (xs.filter (fun y => decide (y ≤ e)) ≠ []) = B1 at *
        generalize hB2 : decide (xs ≠ []) = B2 at *
        generalize xs.filter (fun y => decide (y ≤ e)) = ys at *
        repeat' (first | refine vs (k := ?_) | refine ps (k := ?_) | (refine st hs (k := ?_); intro w hs) | (refine stA hs (k := ?_); intro w hs) | (refine al hs (k := ?_); intro b w hz hs) | (refine bx hs (k := ?_); intro b w hz hs) | (refine bs hs (k := ?_); intro b w hz hs) | refine XS.nil ?_ | refine then_of ?_ | refine xc_seq ?_ | (refine xc_region ?_ ?_; exact rfl) | refine xc_block ?_ | refine block_normal ?_ | refine xc_ret ?_ | refine then_ret ?_ | refine block_ret ?_ | refine xc_skip ?_ | refine xc_exit ?_ | refine then_exit ?_ | refine loopS_exit ?_ | refine loopS_ret ?_ | refine cutB_ret ?_ | refine cutN_ret ?_ | refine cutN_exit ?_ | refine block_exit ?_ | (refine block_other ?_ ?_; exact rfl) | (refine xc_true ?_ ?_; exact rfl) | (refine xc_false ?_ ?_; exact rfl) | ((with_reducible apply xs_guard); exact rfl; exact rfl; intro c hc; (fail_if_success (have : true = c := hc)); (fail_if_success (have : false = c := hc)); cases c) | (refine xc_if rfl (fun hc => ?_) (fun hc => ?_)) | (refine xc_cond rfl (fun hc => ?_) (fun hc => ?_)))
        (with_reducible apply xs_call); exact rfl; exact rfl; exact equal_ret _ _ ys ys (by omega) _ (hv1 _ (fun e he => hs.ro e (by simp [he]))) (hv2 _ (fun e he => hs.ro e (by simp [he])))
        rintro v w' ⟨rfl, ho⟩; replace hs := hs.call0 ho
        rw [decide_eq_true rfl]
        refine vs (k := ?_)
        refine vs (k := ?_)
        refine vs (k := ?_)
        refine vs (k := ?_)
        refine xs_set 89 (v := .bool true) (congrArg Value.bool (beq_self_eq_true B1)) ?_
        refine vs (k := ?_)
        refine vs (k := ?_)
        refine vs (k := ?_)
        refine vs (k := ?_)
        refine vs (k := ?_)
        refine vs (k := ?_)
        refine xs_set 95 (v := .bool true) (congrArg Value.bool (by rw [hne]; exact beq_self_eq_true _)) ?_
        repeat' (first | refine vs (k := ?_) | refine ps (k := ?_) | (refine st hs (k := ?_); intro w hs) | (refine stA hs (k := ?_); intro w hs) | (refine al hs (k := ?_); intro b w hz hs) | (refine bx hs (k := ?_); intro b w hz hs) | (refine bs hs (k := ?_); intro b w hz hs) | refine XS.nil ?_ | refine then_of ?_ | refine xc_seq ?_ | (refine xc_region ?_ ?_; exact rfl) | refine xc_block ?_ | refine block_normal ?_ | refine xc_ret ?_ | refine then_ret ?_ | refine block_ret ?_ | refine xc_skip ?_ | refine xc_exit ?_ | refine then_exit ?_ | refine loopS_exit ?_ | refine loopS_ret ?_ | refine cutB_ret ?_ | refine cutN_ret ?_ | refine cutN_exit ?_ | refine block_exit ?_ | (refine block_other ?_ ?_; exact rfl) | (refine xc_true ?_ ?_; exact rfl) | (refine xc_false ?_ ?_; exact rfl) | ((with_reducible apply xs_guard); exact rfl; exact rfl; intro c hc; (fail_if_success (have : true = c := hc)); (fail_if_success (have : false = c := hc)); cases c) | (refine xc_if rfl (fun hc => ?_) (fun hc => ?_)) | (refine xc_cond rfl (fun hc => ?_) (fun hc => ?_)))
        (with_reducible apply xs_call); exact rfl; exact rfl; exact setAll_ret ta xs Fa _ (h3.a.only (hs.only0 rfl)) (by omega)
        rintro v w' ⟨hv6, ho⟩; replace hs := hs.call0 ho
        obtain ⟨ad6, cp6, rfl, _⟩ := id hv6
        obtain ⟨R6, hs, hv6⟩ := (hv6).read hs rfl
        have hcp : ys.length ≤ cp6 := by
          by_cases hx : xs = []
          · rw [htk, hx]; simp
          · obtain ⟨_, _, e6, hd6⟩ := (hv6 _ (fun e he => hs.ro e (by simp [he])))
            cases e6
            obtain ⟨_, _, _, _, _, hcap6, _⟩ := hd6 hx
            omega
        refine vs (k := ?_)
        refine sl0 (h := ys.length) hcp (k := ?_)
        (with_reducible apply xs_call); exact rfl; exact rfl; exact equal_ret _ _ ys (xs.take ys.length) (by omega) _ (hv1 _ (fun e he => hs.ro e (by simp [he]))) (DAt.take (hv6 _ (fun e he => hs.ro e (by simp [he]))) hfl)
        rintro v w' ⟨rfl, ho⟩; replace hs := hs.call0 ho
        rw [decide_eq_true htk]
        repeat' (first | refine vs (k := ?_) | refine ps (k := ?_) | (refine st hs (k := ?_); intro w hs) | (refine stA hs (k := ?_); intro w hs) | (refine al hs (k := ?_); intro b w hz hs) | (refine bx hs (k := ?_); intro b w hz hs) | (refine bs hs (k := ?_); intro b w hz hs) | refine XS.nil ?_ | refine then_of ?_ | refine xc_seq ?_ | (refine xc_region ?_ ?_; exact rfl) | refine xc_block ?_ | refine block_normal ?_ | refine xc_ret ?_ | refine then_ret ?_ | refine block_ret ?_ | refine xc_skip ?_ | refine xc_exit ?_ | refine then_exit ?_ | refine loopS_exit ?_ | refine loopS_ret ?_ | refine cutB_ret ?_ | refine cutN_ret ?_ | refine cutN_exit ?_ | refine block_exit ?_ | (refine block_other ?_ ?_; exact rfl) | (refine xc_true ?_ ?_; exact rfl) | (refine xc_false ?_ ?_; exact rfl) | ((with_reducible apply xs_guard); exact rfl; exact rfl; intro c hc; (fail_if_success (have : true = c := hc)); (fail_if_success (have : false = c := hc)); cases c) | (refine xc_if rfl (fun hc => ?_) (fun hc => ?_)) | (refine xc_cond rfl (fun hc => ?_) (fun hc => ?_)))
        (with_reducible apply xs_call); exact rfl; exact rfl; exact setAll_ret ta xs Fa _ (h3.a.only (hs.only0 rfl)) (by omega)
        rintro v w' ⟨hv7, ho⟩; replace hs := hs.call0 ho
        obtain ⟨ad7, cp7, rfl, _⟩ := id hv7
        obtain ⟨R7, hs, hv7⟩ := (hv7).read hs rfl
        repeat' (first | refine vs (k := ?_) | refine ps (k := ?_) | (refine st hs (k := ?_); intro w hs) | (refine stA hs (k := ?_); intro w hs) | (refine al hs (k := ?_); intro b w hz hs) | (refine bx hs (k := ?_); intro b w hz hs) | (refine bs hs (k := ?_); intro b w hz hs) | refine XS.nil ?_ | refine then_of ?_ | refine xc_seq ?_ | (refine xc_region ?_ ?_; exact rfl) | refine xc_block ?_ | refine block_normal ?_ | refine xc_ret ?_ | refine then_ret ?_ | refine block_ret ?_ | refine xc_skip ?_ | refine xc_exit ?_ | refine then_exit ?_ | refine loopS_exit ?_ | refine loopS_ret ?_ | refine cutB_ret ?_ | refine cutN_ret ?_ | refine cutN_exit ?_ | refine block_exit ?_ | (refine block_other ?_ ?_; exact rfl) | (refine xc_true ?_ ?_; exact rfl) | (refine xc_false ?_ ?_; exact rfl) | ((with_reducible apply xs_guard); exact rfl; exact rfl; intro c hc; (fail_if_success (have : true = c := hc)); (fail_if_success (have : false = c := hc)); cases c) | (refine xc_if rfl (fun hc => ?_) (fun hc => ?_)) | (refine xc_cond rfl (fun hc => ?_) (fun hc => ?_)))
        (with_reducible apply xs_call); exact rfl; exact rfl; exact equal_ret _ _ xs xs (by omega) _ (hv3 _ (fun e he => hs.ro e (by simp [he]))) (hv7 _ (fun e he => hs.ro e (by simp [he])))
        rintro v w' ⟨rfl, ho⟩; replace hs := hs.call0 ho
        rw [decide_eq_true rfl]
        repeat' (first | refine vs (k := ?_) | refine ps (k := ?_) | (refine st hs (k := ?_); intro w hs) | (refine stA hs (k := ?_); intro w hs) | (refine al hs (k := ?_); intro b w hz hs) | (refine bx hs (k := ?_); intro b w hz hs) | (refine bs hs (k := ?_); intro b w hz hs) | refine XS.nil ?_ | refine then_of ?_ | refine xc_seq ?_ | (refine xc_region ?_ ?_; exact rfl) | refine xc_block ?_ | refine block_normal ?_ | refine xc_ret ?_ | refine then_ret ?_ | refine block_ret ?_ | refine xc_skip ?_ | refine xc_exit ?_ | refine then_exit ?_ | refine loopS_exit ?_ | refine loopS_ret ?_ | refine cutB_ret ?_ | refine cutN_ret ?_ | refine cutN_exit ?_ | refine block_exit ?_ | (refine block_other ?_ ?_; exact rfl) | (refine xc_true ?_ ?_; exact rfl) | (refine xc_false ?_ ?_; exact rfl) | ((with_reducible apply xs_guard); exact rfl; exact rfl; intro c hc; (fail_if_success (have : true = c := hc)); (fail_if_success (have : false = c := hc)); cases c) | (refine xc_if rfl (fun hc => ?_) (fun hc => ?_)) | (refine xc_cond rfl (fun hc => ?_) (fun hc => ?_)))
        (with_reducible apply xs_call); exact rfl; exact rfl; exact setLen_ret ta xs Fa _ (h3.a.only (hs.only0 rfl))
        rintro v w' ⟨rfl, ho⟩; replace hs := hs.call0 ho
        refine vs (k := ?_)
        refine vs (k := ?_)
        refine xs_set 116 (v := .bool true) (congrArg Value.bool (by rw [hne2]; exact beq_self_eq_true _)) ?_
        repeat' (first | refine vs (k := ?_) | refine ps (k := ?_) | (refine st hs (k := ?_); intro w hs) | (refine stA hs (k := ?_); intro w hs) | (refine al hs (k := ?_); intro b w hz hs) | (refine bx hs (k := ?_); intro b w hz hs) | (refine bs hs (k := ?_); intro b w hz hs) | refine XS.nil ?_ | refine then_of ?_ | refine xc_seq ?_ | (refine xc_region ?_ ?_; exact rfl) | refine xc_block ?_ | refine block_normal ?_ | refine xc_ret ?_ | refine then_ret ?_ | refine block_ret ?_ | refine xc_skip ?_ | refine xc_exit ?_ | refine then_exit ?_ | refine loopS_exit ?_ | refine loopS_ret ?_ | refine cutB_ret ?_ | refine cutN_ret ?_ | refine cutN_exit ?_ | refine block_exit ?_ | (refine block_other ?_ ?_; exact rfl) | (refine xc_true ?_ ?_; exact rfl) | (refine xc_false ?_ ?_; exact rfl) | ((with_reducible apply xs_guard); exact rfl; exact rfl; intro c hc; (fail_if_success (have : true = c := hc)); (fail_if_success (have : false = c := hc)); cases c) | (refine xc_if rfl (fun hc => ?_) (fun hc => ?_)) | (refine xc_cond rfl (fun hc => ?_) (fun hc => ?_)))
        (with_reducible apply xs_call); exact rfl; exact rfl; exact setAll_ret ta xs Fa _ (h3.a.only (hs.only0 rfl)) (by omega)
        rintro v w' ⟨hv8, ho⟩; replace hs := hs.call0 ho
        obtain ⟨ad8, cp8, rfl, _⟩ := id hv8
        obtain ⟨R8, hs, hv8⟩ := (hv8).read hs rfl
        repeat' (first | refine vs (k := ?_) | refine ps (k := ?_) | (refine st hs (k := ?_); intro w hs) | (refine stA hs (k := ?_); intro w hs) | (refine al hs (k := ?_); intro b w hz hs) | (refine bx hs (k := ?_); intro b w hz hs) | (refine bs hs (k := ?_); intro b w hz hs) | refine XS.nil ?_ | refine then_of ?_ | refine xc_seq ?_ | (refine xc_region ?_ ?_; exact rfl) | refine xc_block ?_ | refine block_normal ?_ | refine xc_ret ?_ | refine then_ret ?_ | refine block_ret ?_ | refine xc_skip ?_ | refine xc_exit ?_ | refine then_exit ?_ | refine loopS_exit ?_ | refine loopS_ret ?_ | refine cutB_ret ?_ | refine cutN_ret ?_ | refine cutN_exit ?_ | refine block_exit ?_ | (refine block_other ?_ ?_; exact rfl) | (refine xc_true ?_ ?_; exact rfl) | (refine xc_false ?_ ?_; exact rfl) | ((with_reducible apply xs_guard); exact rfl; exact rfl; intro c hc; (fail_if_success (have : true = c := hc)); (fail_if_success (have : false = c := hc)); cases c) | (refine xc_if rfl (fun hc => ?_) (fun hc => ?_)) | (refine xc_cond rfl (fun hc => ?_) (fun hc => ?_)))
        (with_reducible apply xs_call); exact rfl; exact rfl; exact setAll_ret tb xs Fb _ (h3.b.only (hs.only0 rfl)) (by omega)
        rintro v w' ⟨hv9, ho⟩; replace hs := hs.call0 ho
        obtain ⟨ad9, cp9, rfl, _⟩ := id hv9
        obtain ⟨R9, hs, hv9⟩ := (hv9).read hs rfl
        repeat' (first | refine vs (k := ?_) | refine ps (k := ?_) | (refine st hs (k := ?_); intro w hs) | (refine stA hs (k := ?_); intro w hs) | (refine al hs (k := ?_); intro b w hz hs) | (refine bx hs (k := ?_); intro b w hz hs) | (refine bs hs (k := ?_); intro b w hz hs) | refine XS.nil ?_ | refine then_of ?_ | refine xc_seq ?_ | (refine xc_region ?_ ?_; exact rfl) | refine xc_block ?_ | refine block_normal ?_ | refine xc_ret ?_ | refine then_ret ?_ | refine block_ret ?_ | refine xc_skip ?_ | refine xc_exit ?_ | refine then_exit ?_ | refine loopS_exit ?_ | refine loopS_ret ?_ | refine cutB_ret ?_ | refine cutN_ret ?_ | refine cutN_exit ?_ | refine block_exit ?_ | (refine block_other ?_ ?_; exact rfl) | (refine xc_true ?_ ?_; exact rfl) | (refine xc_false ?_ ?_; exact rfl) | ((with_reducible apply xs_guard); exact rfl; exact rfl; intro c hc; (fail_if_success (have : true = c := hc)); (fail_if_success (have : false = c := hc)); cases c) | (refine xc_if rfl (fun hc => ?_) (fun hc => ?_)) | (refine xc_cond rfl (fun hc => ?_) (fun hc => ?_)))
        (with_reducible apply xs_call); exact rfl; exact rfl; exact equal_ret _ _ xs xs (by omega) _ (hv8 _ (fun e he => hs.ro e (by simp [he]))) (hv9 _ (fun e he => hs.ro e (by simp [he])))
        rintro v w' ⟨rfl, ho⟩; replace hs := hs.call0 ho
        rw [decide_eq_true rfl]
        repeat' (first | refine vs (k := ?_) | refine ps (k := ?_) | (refine st hs (k := ?_); intro w hs) | (refine stA hs (k := ?_); intro w hs) | (refine al hs (k := ?_); intro b w hz hs) | (refine bx hs (k := ?_); intro b w hz hs) | (refine bs hs (k := ?_); intro b w hz hs) | refine XS.nil ?_ | refine then_of ?_ | refine xc_seq ?_ | (refine xc_region ?_ ?_; exact rfl) | refine xc_block ?_ | refine block_normal ?_ | refine xc_ret ?_ | refine then_ret ?_ | refine block_ret ?_ | refine xc_skip ?_ | refine xc_exit ?_ | refine then_exit ?_ | refine loopS_exit ?_ | refine loopS_ret ?_ | refine cutB_ret ?_ | refine cutN_ret ?_ | refine cutN_exit ?_ | refine block_exit ?_ | (refine block_other ?_ ?_; exact rfl) | (refine xc_true ?_ ?_; exact rfl) | (refine xc_false ?_ ?_; exact rfl) | ((with_reducible apply xs_guard); exact rfl; exact rfl; intro c hc; (fail_if_success (have : true = c := hc)); (fail_if_success (have : false = c := hc)); cases c) | (refine xc_if rfl (fun hc => ?_) (fun hc => ?_)) | (refine xc_cond rfl (fun hc => ?_) (fun hc => ?_)))
        first | refine rt (hq := ?_) | refine rt' (hq := ?_)
        exact ⟨rfl, h3.o.step (hs.only0 rfl) (by simp)⟩
end Go.Proofs.YtjooegonmdmajaaX
