/- slices.Clone of numbers, slices.IsSorted; what Compact leaves. -/
import Derived.Test.YtjooegonmdmajaaSort6
import Derived.Test.YtjooegonmdmajaaLaw6f
set_option linter.unusedVariables false
set_option linter.unusedSimpArgs false
set_option maxRecDepth 100000
namespace Go.Proofs.YtjooegonmdmajaaX
open Go Go.RowKit
attribute [local irreducible] XS XC XA thenE blockE retE loopE loopS cutB cutN doneE SE
theorem srt_merge (l : List Int) : (l.mergeSort fun x y => decide (x ≤ y)).Pairwise fun x y => x ≤ y := by
  have := List.pairwise_mergeSort (le := fun x y : Int => decide (x ≤ y)) (fun a b c h k => by simp only [decide_eq_true_eq] at *; omega) (fun a b => by simp only [Bool.or_eq_true, decide_eq_true_eq]; omega) l
  exact this.imp fun h => by simpa using h
theorem compact_srt {S : List Int} (h : S.Pairwise fun x y => x ≤ y) : RB.Srt ltI (Lib.compact S) := by
  unfold RB.Srt Lib.compact Lib.compactUpTo
  rw [List.pairwise_map]
  have hr : (List.range S.length).Pairwise (· < ·) := List.pairwise_lt_range
  refine (hr.filter (Lib.keeps S.toArray)).imp_of_mem ?_
  intro i j hi hj hij
  obtain ⟨hi1, hi2⟩ := List.mem_filter.1 hi
  obtain ⟨hj1, hj2⟩ := List.mem_filter.1 hj
  have hi3 := List.mem_range.1 hi1
  have hj3 := List.mem_range.1 hj1
  have get : ∀ k, k < S.length → S.toArray[k]! = S[k]! := fun k hk => by simp
  have le : ∀ a b (ha : a < S.length) (hb : b < S.length), a ≤ b → S[a] ≤ S[b] := fun a b ha hb hab => by
    rcases Nat.lt_or_ge a b with h1 | h1
    · exact List.pairwise_iff_getElem.1 h a b ha hb h1
    · have : a = b := by omega
      subst this
      exact Int.le_refl _
  have h1 := le i (j - 1) hi3 (by omega) (by omega)
  have h2 := le (j - 1) j (by omega) hj3 (by omega)
  have h3 : S[j - 1] ≠ S[j] := fun e => by
    have := Lib.keeps_neg (d := S.toArray) (m := j) (by omega) (by simp [e, hj3, show j - 1 < S.length by omega])
    rw [hj2] at this
    cases this
  have e1 : S.toArray[i]! = S[i] := by simp [hi3]
  have e2 : S.toArray[j]! = S[j] := by simp [hj3]
  rw [e1, e2]
  simp only [ltI, decide_eq_true_eq]
  omega
theorem mem_compact {S : List Int} {z : Int} : z ∈ Lib.compact S ↔ z ∈ S := by
  unfold Lib.compact Lib.compactUpTo
  simp only [List.mem_map, List.mem_filter, List.mem_range]
  constructor
  · rintro ⟨i, ⟨hi, _⟩, rfl⟩
    have : S.toArray[i]! = S[i] := by simp [hi]
    rw [this]
    exact List.getElem_mem hi
  · intro hz
    obtain ⟨i, hi, rfl⟩ := List.getElem_of_mem hz
    clear hz
    induction i with
    | zero => exact ⟨0, ⟨hi, Lib.keeps_lt_one _ 0 (by omega)⟩, by simp [hi]⟩
    | succ i ih =>
      by_cases e : S[i + 1] = S[i]
      · rw [e]
        exact ih (by omega)
      · refine ⟨i + 1, ⟨hi, Lib.keeps_pos ?_⟩, by simp [hi]⟩
        have h1 : S.toArray[i + 1]! = S[i + 1] := by simp [hi]
        have h2 : S.toArray[i + 1 - 1]! = S[i] := by simp [show i < S.length by omega]
        rw [h1, h2]
        exact e
section
variable {ops : Array Oper} {QE : Exit → Env → World → Prop} {n : Nat} {rest : List Oper} {env : Env} {w wb : World} {d : Option Nat} {ty : Nat} {pos : String} {aft : Array Edge} {g : Option (Nat × Bool)}
/-- Is a slice nil? -/
theorem eqSl {t t' m c : Nat} {x : Operand} {ad : Option Addr} {e size bytes : Nat} (hsl : look t tab.sls = some (e, size, bytes) := by exact rfl) (hw : wantedE ops env g = true := by exact rfl) (hx : ev env x = .slice ad m c := by exact rfl)
    (k : XS Try.prog ops QE n rest (updO env d (.bool ad.isNone)) w) : XS Try.prog ops QE n (⟨d, .binOp .eql t x (.const (.slice none 0 0)) t', ty, pos, aft, g⟩ :: rest) env w := by
  obtain ⟨hu, _⟩ := sl_parts (tabOk.sl hsl)
  exact xs_val hw (r_binX (by rw [hx]; simp [eqGuard]) (by rw [hx]; exact Lib.run_eql_slice_nil w t e ad m c 0 0 hu)) k
/-- append(own, other...) where one's own isn't nil. -/
theorem apL {t c : Nat} {x y : Operand} {v : Value} {xs : List Int} {ad : Addr} {G : List Nat} (hv : ∃ (b n c : Nat), v = .slice (some ⟨b, 0, none⟩) n c) (hO : SlV w 3 1 v 0 [] G) (hc : ∀ (j : Nat) u, (ints xs)[j]? = some u → w.cell? (ad.add j) = some u) (hlen : xs.length ≤ 1000000) (hw : wantedE ops env g = true := by exact rfl) (hsl : look t tab.sls = some (3, 1, 8) := by exact rfl)
    (hx : ev env x = v := by exact rfl) (hy : ev env y = .slice (some ad) xs.length c := by exact rfl) (k : ∀ v' w', (∃ G', SlV w' 3 1 v' xs.length (ints xs) G' ∧ ∀ i ∈ G', i ∈ G ∨ w.heap.size ≤ i) → Only G w w' → XS Try.prog ops QE n rest (updO env d v') w') :
    XS Try.prog ops QE n (⟨d, .call { callee := .builtin .append, args := #[x, y], argTypes := #[t, t] }, ty, pos, aft, g⟩ :: rest) env w := by
  by_cases h0 : xs = []
  · subst h0
    obtain ⟨hu, i, hi, hs1, hs2⟩ := sl_parts (tabOk.sl hsl)
    rcases id hO with ⟨rfl, _⟩ | ⟨gb, cap, cur, rfl, rfl, h3, h4, h5, h6, hg⟩
    · obtain ⟨_, _, _, h⟩ := hv; cases h
    · have hr := run_append_room (P := Try.prog) w t ty 3 i hu hi gb 0 cap cur.toArray hg ad 0 c [] (by simp) (by simp) (by simp) (by omega) (by simp)
      have hs := ((St.nil w).track hg (by simp)).row At.head (cur.toArray.toList.take (0 * i.size) ++ [] ++ cur.toArray.toList.drop (0 * i.size + ([] : List Value).length)).toArray
      refine XS.value hw ?_ (k _ _ ⟨[gb], .inr ⟨gb, cap, (cur.toArray.toList.take (0 * i.size) ++ [] ++ cur.toArray.toList.drop (0 * i.size + ([] : List Value).length)), rfl, rfl, by simp, by simpa using h4, by simp [ints], by simp [ints], hs.get At.head⟩, by simp⟩ (hs.onlyF [gb] (by simp) (by simp [D0])))
      simp only [List.length_nil] at hy
      simp [execOp, resolve, Sem.run_bind, invoke, builtin, hx, hy, hr]
  · refine xs_appendW tabOk hw hsl (zs := [.int .i64 0]) rfl rfl hx hy (by simp [ints]) (List.length_pos_iff.2 h0) hc (List.all_eq_true.1 (ints_one xs)) hO (by omega) (by omega) ?_
    intro v' w' h1 h2
    rw [Nat.zero_add, List.nil_append] at h1
    exact k v' w' h1 h2
end
theorem clone6_ret (sl : Value) (l : List Int) (hm : l.length ≤ 1000000) (w0 : World) (hL : LAt w0 sl l) : Ret Try.prog 54 #[sl] w0 fun v w' => (∃ G, SlV w' 3 1 v l.length (ints l) G ∧ New w0 G) ∧ Only [] w0 w' := by
  obtain ⟨ad, cap, rfl, hD⟩ := hL
  have hs := St.nil w0
  refine ret_of_xc Try.func54 (by kernel_rfl) rfl Try.ntmps54 rfl rfl rfl ?_
  repeat' (first | refine vs (k := ?_) | refine ps (k := ?_) | (refine st hs (k := ?_); intro w hs) | (refine stA hs (k := ?_); intro w hs) | (refine al hs (k := ?_); intro b w hz hs) | (refine bx hs (k := ?_); intro b w hz hs) | (refine bs hs (k := ?_); intro b w hz hs) | refine XS.nil ?_ | refine then_of ?_ | refine xc_seq ?_ | refine xc_block ?_ | refine block_normal ?_ | refine xc_ret ?_ | refine then_ret ?_ | refine block_ret ?_ | refine xc_skip ?_ | refine xc_exit ?_ | refine then_exit ?_ | refine loopS_exit ?_ | refine loopS_ret ?_ | refine cutB_ret ?_ | refine cutN_ret ?_ | refine cutN_exit ?_ | refine block_exit ?_ | (refine block_other ?_ ?_; exact rfl) | (refine xc_true ?_ ?_; exact rfl) | (refine xc_false ?_ ?_; exact rfl) | ((with_reducible apply xs_guard); exact rfl; exact rfl; intro c hc; (fail_if_success (have : true = c := hc)); (fail_if_success (have : false = c := hc)); cases c) | (refine xc_if rfl (fun hc => ?_) (fun hc => ?_)) | (refine xc_cond rfl (fun hc => ?_) (fun hc => ?_)))
  refine xc_region ?_ ?_; exact rfl
  repeat' (first | refine vs (k := ?_) | refine ps (k := ?_) | (refine st hs (k := ?_); intro w hs) | (refine stA hs (k := ?_); intro w hs) | (refine al hs (k := ?_); intro b w hz hs) | (refine bx hs (k := ?_); intro b w hz hs) | (refine bs hs (k := ?_); intro b w hz hs) | refine XS.nil ?_ | refine then_of ?_ | refine xc_seq ?_ | refine xc_block ?_ | refine block_normal ?_ | refine xc_ret ?_ | refine then_ret ?_ | refine block_ret ?_ | refine xc_skip ?_ | refine xc_exit ?_ | refine then_exit ?_ | refine loopS_exit ?_ | refine loopS_ret ?_ | refine cutB_ret ?_ | refine cutN_ret ?_ | refine cutN_exit ?_ | refine block_exit ?_ | (refine block_other ?_ ?_; exact rfl) | (refine xc_true ?_ ?_; exact rfl) | (refine xc_false ?_ ?_; exact rfl) | ((with_reducible apply xs_guard); exact rfl; exact rfl; intro c hc; (fail_if_success (have : true = c := hc)); (fail_if_success (have : false = c := hc)); cases c) | (refine xc_if rfl (fun hc => ?_) (fun hc => ?_)) | (refine xc_cond rfl (fun hc => ?_) (fun hc => ?_)))
  refine xc_region ?_ ?_; exact rfl
  refine vs (k := ?_)
  refine eqSl (k := ?_)
  cases ad with
  | none =>
    have hl : l = [] := by
      by_cases h : l = []
      · exact h
      · obtain ⟨_, _, _, _, _, e, _⟩ := hD h; cases e
    subst hl
    repeat' (first | refine vs (k := ?_) | refine ps (k := ?_) | (refine st hs (k := ?_); intro w hs) | (refine stA hs (k := ?_); intro w hs) | (refine al hs (k := ?_); intro b w hz hs) | (refine bx hs (k := ?_); intro b w hz hs) | (refine bs hs (k := ?_); intro b w hz hs) | refine XS.nil ?_ | refine then_of ?_ | refine xc_seq ?_ | (refine xc_region ?_ ?_; exact rfl) | refine xc_block ?_ | refine block_normal ?_ | refine xc_ret ?_ | refine then_ret ?_ | refine block_ret ?_ | refine xc_skip ?_ | refine xc_exit ?_ | refine then_exit ?_ | refine loopS_exit ?_ | refine loopS_ret ?_ | refine cutB_ret ?_ | refine cutN_ret ?_ | refine cutN_exit ?_ | refine block_exit ?_ | (refine block_other ?_ ?_; exact rfl) | (refine xc_true ?_ ?_; exact rfl) | (refine xc_false ?_ ?_; exact rfl) | ((with_reducible apply xs_guard); exact rfl; exact rfl; intro c hc; (fail_if_success (have : true = c := hc)); (fail_if_success (have : false = c := hc)); cases c) | (refine xc_if rfl (fun hc => ?_) (fun hc => ?_)) | (refine xc_cond rfl (fun hc => ?_) (fun hc => ?_)))
    first | refine rt (hq := ?_) | refine rt' (hq := ?_)
    exact ⟨⟨[], .inl ⟨rfl, rfl, rfl, rfl⟩, fun k h => by cases h⟩, hs.only0 rfl⟩
  | some a =>
    repeat' (first | refine vs (k := ?_) | refine ps (k := ?_) | (refine st hs (k := ?_); intro w hs) | (refine stA hs (k := ?_); intro w hs) | (refine al hs (k := ?_); intro b w hz hs) | (refine bx hs (k := ?_); intro b w hz hs) | (refine bs hs (k := ?_); intro b w hz hs) | refine XS.nil ?_ | refine then_of ?_ | refine xc_seq ?_ | refine xc_block ?_ | refine block_normal ?_ | refine xc_ret ?_ | refine then_ret ?_ | refine block_ret ?_ | refine xc_skip ?_ | refine xc_exit ?_ | refine then_exit ?_ | refine loopS_exit ?_ | refine loopS_ret ?_ | refine cutB_ret ?_ | refine cutN_ret ?_ | refine cutN_exit ?_ | refine block_exit ?_ | (refine block_other ?_ ?_; exact rfl) | (refine xc_true ?_ ?_; exact rfl) | (refine xc_false ?_ ?_; exact rfl) | ((with_reducible apply xs_guard); exact rfl; exact rfl; intro c hc; (fail_if_success (have : true = c := hc)); (fail_if_success (have : false = c := hc)); cases c) | (refine xc_if rfl (fun hc => ?_) (fun hc => ?_)) | (refine xc_cond rfl (fun hc => ?_) (fun hc => ?_)))
    refine xc_region ?_ ?_; exact rfl
    refine xs_buildSlice0 tabOk rfl rfl hs ?_
    intro v1 w1 hO hv1
    refine vs (k := ?_)
    have ho1 := hO.st.only0 rfl
    obtain ⟨g, hS, hg⟩ : ∃ g, SlV w1 3 1 v1 0 [] [g] ∧ w0.heap.size ≤ g ∧ ∃ n c, v1 = .slice (some ⟨g, 0, none⟩) n c := by
      rcases hO with ⟨rfl, _⟩ | ⟨g, cp, cur, rfl, h1, h2, h3, h4, h5⟩
      · exact absurd rfl hv1
      · exact ⟨g, .inr ⟨g, cp, cur, rfl, rfl, h1, h2, h3, h4, h5.get At.head⟩, h5.new (g, true) (by simp) rfl, _, _, rfl⟩
    obtain ⟨hgn, n1, c1, rfl⟩ := hg
    have hcells : ∀ (j : Nat) u, (ints l)[j]? = some u → w1.cell? (a.add j) = some u := fun j u hj => by
      have hne : l ≠ [] := fun e => by subst e; simp [ints] at hj
      obtain ⟨b, off, cs, E, fz, e, hb, hcs⟩ := hD hne
      cases e
      rw [add_addr]
      unfold ints at hj
      rw [List.getElem?_map] at hj
      obtain ⟨x, hx, rfl⟩ := Option.map_eq_some_iff.1 hj
      simp [World.cell?, ho1.block hb (by simp), hcs j x hx]
    refine apL ⟨_, _, _, rfl⟩ hS hcells hm (k := ?_)
    intro v2 w2 ⟨G2, h1, h2⟩ ho2
    have hs := St.nil w2
    repeat' (first | refine vs (k := ?_) | refine ps (k := ?_) | (refine st hs (k := ?_); intro w hs) | (refine stA hs (k := ?_); intro w hs) | (refine al hs (k := ?_); intro b w hz hs) | (refine bx hs (k := ?_); intro b w hz hs) | (refine bs hs (k := ?_); intro b w hz hs) | refine XS.nil ?_ | refine then_of ?_ | refine xc_seq ?_ | (refine xc_region ?_ ?_; exact rfl) | refine xc_block ?_ | refine block_normal ?_ | refine xc_ret ?_ | refine then_ret ?_ | refine block_ret ?_ | refine xc_skip ?_ | refine xc_exit ?_ | refine then_exit ?_ | refine loopS_exit ?_ | refine loopS_ret ?_ | refine cutB_ret ?_ | refine cutN_ret ?_ | refine cutN_exit ?_ | refine block_exit ?_ | (refine block_other ?_ ?_; exact rfl) | (refine xc_true ?_ ?_; exact rfl) | (refine xc_false ?_ ?_; exact rfl) | ((with_reducible apply xs_guard); exact rfl; exact rfl; intro c hc; (fail_if_success (have : true = c := hc)); (fail_if_success (have : false = c := hc)); cases c) | (refine xc_if rfl (fun hc => ?_) (fun hc => ?_)) | (refine xc_cond rfl (fun hc => ?_) (fun hc => ?_)))
    first | refine rt (hq := ?_) | refine rt' (hq := ?_)
    have ho3 := hs.only0 rfl
    have hsz := ho1.size
    refine ⟨⟨G2, h1.keep ho3 (by simp), fun k hk => ?_⟩, (ho1.step ho2 (fun k hk => .inr (by obtain rfl := List.mem_singleton.1 hk; exact hgn))).step ho3 (by simp)⟩
    rcases h2 k hk with h | h
    · obtain rfl := List.mem_singleton.1 h; exact hgn
    · omega
theorem cmpNaN_ret (a : Int) (w0 : World) : Ret Try.prog 113 #[.int .i64 a] w0 fun v w' => v = .bool false ∧ Only [] w0 w' := by
  have hs := St.nil w0
  refine ret_of_xc Try.func113 (by kernel_rfl) rfl Try.ntmps113 rfl rfl rfl ?_
  repeat' (first | refine vs (k := ?_) | refine ps (k := ?_) | (refine st hs (k := ?_); intro w hs) | (refine stA hs (k := ?_); intro w hs) | (refine al hs (k := ?_); intro b w hz hs) | (refine bx hs (k := ?_); intro b w hz hs) | (refine bs hs (k := ?_); intro b w hz hs) | refine XS.nil ?_ | refine then_of ?_ | refine xc_seq ?_ | (refine xc_region ?_ ?_; exact rfl) | refine xc_block ?_ | refine block_normal ?_ | refine xc_ret ?_ | refine then_ret ?_ | refine block_ret ?_ | refine xc_skip ?_ | refine xc_exit ?_ | refine then_exit ?_ | refine loopS_exit ?_ | refine loopS_ret ?_ | refine cutB_ret ?_ | refine cutN_ret ?_ | refine cutN_exit ?_ | refine block_exit ?_ | (refine block_other ?_ ?_; exact rfl) | (refine xc_true ?_ ?_; exact rfl) | (refine xc_false ?_ ?_; exact rfl) | ((with_reducible apply xs_guard); exact rfl; exact rfl; intro c hc; (fail_if_success (have : true = c := hc)); (fail_if_success (have : false = c := hc)); cases c) | (refine xc_if rfl (fun hc => ?_) (fun hc => ?_)) | (refine xc_cond rfl (fun hc => ?_) (fun hc => ?_)))
  first | refine rt (hq := ?_) | refine rt' (hq := ?_)
  exact ⟨congrArg Value.bool (bne_self_eq_false a), hs.only0 rfl⟩
theorem cmpLess_ret (a b : Int) (w0 : World) : Ret Try.prog 94 #[.int .i64 a, .int .i64 b] w0 fun v w' => v = .bool (decide (a < b)) ∧ Only [] w0 w' := by
  have hs := St.nil w0
  refine ret_of_xc Try.func94 (by kernel_rfl) rfl Try.ntmps94 rfl rfl rfl ?_
  repeat' (first | refine vs (k := ?_) | refine ps (k := ?_) | (refine st hs (k := ?_); intro w hs) | (refine stA hs (k := ?_); intro w hs) | (refine al hs (k := ?_); intro b w hz hs) | (refine bx hs (k := ?_); intro b w hz hs) | (refine bs hs (k := ?_); intro b w hz hs) | refine XS.nil ?_ | refine then_of ?_ | refine xc_seq ?_ | (refine xc_region ?_ ?_; exact rfl) | refine xc_block ?_ | refine block_normal ?_ | refine xc_ret ?_ | refine then_ret ?_ | refine block_ret ?_ | refine xc_skip ?_ | refine xc_exit ?_ | refine then_exit ?_ | refine loopS_exit ?_ | refine loopS_ret ?_ | refine cutB_ret ?_ | refine cutN_ret ?_ | refine cutN_exit ?_ | refine block_exit ?_ | (refine block_other ?_ ?_; exact rfl) | (refine xc_true ?_ ?_; exact rfl) | (refine xc_false ?_ ?_; exact rfl) | ((with_reducible apply xs_guard); exact rfl; exact rfl; intro c hc; (fail_if_success (have : true = c := hc)); (fail_if_success (have : false = c := hc)); cases c) | (refine xc_if rfl (fun hc => ?_) (fun hc => ?_)) | (refine xc_cond rfl (fun hc => ?_) (fun hc => ?_)))
  (with_reducible apply xs_call); exact rfl; exact rfl; exact cmpNaN_ret a _
  rintro v w' ⟨rfl, ho⟩; replace hs := hs.call0 ho; repeat' (first | refine vs (k := ?_) | refine ps (k := ?_) | (refine st hs (k := ?_); intro w hs) | (refine stA hs (k := ?_); intro w hs) | (refine al hs (k := ?_); intro b w hz hs) | (refine bx hs (k := ?_); intro b w hz hs) | (refine bs hs (k := ?_); intro b w hz hs) | refine XS.nil ?_ | refine then_of ?_ | refine xc_seq ?_ | (refine xc_region ?_ ?_; exact rfl) | refine xc_block ?_ | refine block_normal ?_ | refine xc_ret ?_ | refine then_ret ?_ | refine block_ret ?_ | refine xc_skip ?_ | refine xc_exit ?_ | refine then_exit ?_ | refine loopS_exit ?_ | refine loopS_ret ?_ | refine cutB_ret ?_ | refine cutN_ret ?_ | refine cutN_exit ?_ | refine block_exit ?_ | (refine block_other ?_ ?_; exact rfl) | (refine xc_true ?_ ?_; exact rfl) | (refine xc_false ?_ ?_; exact rfl) | ((with_reducible apply xs_guard); exact rfl; exact rfl; intro c hc; (fail_if_success (have : true = c := hc)); (fail_if_success (have : false = c := hc)); cases c) | (refine xc_if rfl (fun hc => ?_) (fun hc => ?_)) | (refine xc_cond rfl (fun hc => ?_) (fun hc => ?_)))
  first | refine rt (hq := ?_) | refine rt' (hq := ?_)
  exact ⟨rfl, hs.only0 rfl⟩
set_option maxHeartbeats 1000000 in
theorem isSorted_ret (sl : Value) (xs : List Int) (hm : xs.length ≤ 1000000) (hx : RB.Srt ltI xs) (w0 : World) (hL : DAt w0 sl xs) : Ret Try.prog 58 #[sl] w0 fun v w' => v = .bool true ∧ Only [] w0 w' := by
  obtain ⟨ad, cap, rfl, hD⟩ := hL
  have hs := St.nil w0
  refine ret_of_xc Try.func58 (by kernel_rfl) rfl Try.ntmps58 rfl rfl rfl ?_
  repeat' (first | refine vs (k := ?_) | refine ps (k := ?_) | (refine st hs (k := ?_); intro w hs) | (refine stA hs (k := ?_); intro w hs) | (refine al hs (k := ?_); intro b w hz hs) | (refine bx hs (k := ?_); intro b w hz hs) | (refine bs hs (k := ?_); intro b w hz hs) | refine XS.nil ?_ | refine then_of ?_ | refine xc_seq ?_ | (refine xc_region ?_ ?_; exact rfl) | refine xc_block ?_ | refine block_normal ?_ | refine xc_ret ?_ | refine then_ret ?_ | refine block_ret ?_ | refine xc_skip ?_ | refine xc_exit ?_ | refine then_exit ?_ | refine loopS_exit ?_ | refine loopS_ret ?_ | refine cutB_ret ?_ | refine cutN_ret ?_ | refine cutN_exit ?_ | refine block_exit ?_ | (refine block_other ?_ ?_; exact rfl) | (refine xc_true ?_ ?_; exact rfl) | (refine xc_false ?_ ?_; exact rfl) | ((with_reducible apply xs_guard); exact rfl; exact rfl; intro c hc; (fail_if_success (have : true = c := hc)); (fail_if_success (have : false = c := hc)); cases c) | (refine xc_if rfl (fun hc => ?_) (fun hc => ?_)) | (refine xc_cond rfl (fun hc => ?_) (fun hc => ?_)))
  refine xc_cutB (fun _ : Unit => []) (fun _ w => Only [] w0 w) ?_ ?_
  · refine xc_loopS (fun (i : Int) => [(0, .slice ad xs.length cap), (3, .int .i64 i)]) (fun i w => -1 ≤ i ∧ i < xs.length ∧ Only [] w0 w) (fun i => (i + 1).toNat) (IntKind.i64.wrap ((xs.length : Nat) - 1)) (by (repeat (first | exact agree_nil | (apply agree_cons; exact rfl)))) ⟨?_, ?_, hs.only0 rfl⟩ fun i env w ⟨h1, h2, ho⟩ => ?_
    · rw [i64_small (by omega) (by omega)]; omega
    · rw [i64_small (by omega) (by omega)]; omega
    clear hs
    have hs := St.nil w
    repeat' (first | refine vs (k := ?_) | refine ps (k := ?_) | (refine st hs (k := ?_); intro w hs) | (refine stA hs (k := ?_); intro w hs) | (refine al hs (k := ?_); intro b w hz hs) | (refine bx hs (k := ?_); intro b w hz hs) | (refine bs hs (k := ?_); intro b w hz hs) | refine XS.nil ?_ | refine then_of ?_ | refine xc_seq ?_ | (refine xc_region ?_ ?_; exact rfl) | refine xc_block ?_ | refine block_normal ?_ | refine xc_ret ?_ | refine then_ret ?_ | refine block_ret ?_ | refine xc_skip ?_ | refine xc_exit ?_ | refine then_exit ?_ | refine loopS_exit ?_ | refine loopS_ret ?_ | refine cutB_ret ?_ | refine cutN_ret ?_ | refine cutN_exit ?_ | refine block_exit ?_ | (refine block_other ?_ ?_; exact rfl) | (refine xc_true ?_ ?_; exact rfl) | (refine xc_false ?_ ?_; exact rfl) | ((with_reducible apply xs_guard); exact rfl; exact rfl; intro c hc; (fail_if_success (have : true = c := hc)); (fail_if_success (have : false = c := hc)); cases c) | (refine xc_if rfl (fun hc => ?_) (fun hc => ?_)) | (refine xc_cond rfl (fun hc => ?_) (fun hc => ?_)))
    · have hi : 0 < i := hc
      obtain ⟨k, rfl⟩ : ∃ k : Nat, i = ((k + 1 : Nat) : Int) := ⟨(i - 1).toNat, by omega⟩
      have hk : k + 1 < xs.length := by omega
      obtain ⟨b, off, cs, fz, rfl, hcap, hb, hcs⟩ := hD (fun h => by subst h; simp at hk)
      have g0 := hcs (k + 1) _ (List.getElem?_eq_getElem hk)
      have g1 := hcs k _ (List.getElem?_eq_getElem (show k < xs.length by omega))
      have hlt : ltI xs[k] xs[k + 1] = true := List.pairwise_iff_getElem.1 hx k (k + 1) (by omega) hk (by omega)
      simp only [ltI, decide_eq_true_eq] at hlt
      generalize xs[k] = y at *
      generalize xs[k + 1] = x at *
      have e1 : IntKind.i64.wrap (((k + 1 : Nat) : Int) - 1) = ((k : Nat) : Int) := by rw [i64_small (by omega) (by omega)]; omega
      have hb2 := ho.block hb (by simp)
      have q0 : cs[off + ((k + 1 : Nat) : Int).toNat * 1]? = some (.int .i64 x) := by simpa using g0
      have q1 : cs[off + ((k : Nat) : Int).toNat * 1]? = some (.int .i64 y) := by simpa using g1
      replace hs := hs.track hb2 (by simp)
      refine dr [] hs (k := ?_); intro hX w hs
      refine tk 0 hX (k := ?_)
      refine tk 1 hX (k := ?_)
      refine tk 2 hX (hr := fun w' hH => r_indexAddr tabOk rfl rfl rfl (by omega) (by omega)) (k := ?_)
      refine tk 3 hX (v := .int .i64 x) (hr := fun w' hH => r_load tabOk rfl rfl (hH rfl) At.head q0) (k := ?_)
      refine tk 4 hX (k := ?_)
      refine tk 5 hX (k := ?_)
      refine tk 6 hX (k := ?_)
      rw [e1]
      refine tk 7 hX (hr := fun w' hH => r_indexAddr tabOk rfl rfl rfl (by omega) (by omega)) (k := ?_)
      refine tk 8 hX (v := .int .i64 y) (hr := fun w' hH => r_load tabOk rfl rfl (hH rfl) At.head q1) (k := ?_)
      refine dt 9 hX (k := ?_)
      (with_reducible apply xs_call); exact rfl; exact rfl; exact cmpLess_ret x y _
      rintro v w' ⟨rfl, ho2⟩; replace hs := hs.call0 ho2
      rw [decide_eq_false (show ¬ x < y by omega)]
      repeat' (first | refine vs (k := ?_) | refine ps (k := ?_) | (refine st hs (k := ?_); intro w hs) | (refine stA hs (k := ?_); intro w hs) | (refine al hs (k := ?_); intro b w hz hs) | (refine bx hs (k := ?_); intro b w hz hs) | (refine bs hs (k := ?_); intro b w hz hs) | refine XS.nil ?_ | refine then_of ?_ | refine xc_seq ?_ | (refine xc_region ?_ ?_; exact rfl) | refine xc_block ?_ | refine block_normal ?_ | refine xc_ret ?_ | refine then_ret ?_ | refine block_ret ?_ | refine xc_skip ?_ | refine xc_exit ?_ | refine then_exit ?_ | refine loopS_exit ?_ | refine loopS_ret ?_ | refine cutB_ret ?_ | refine cutN_ret ?_ | refine cutN_exit ?_ | refine block_exit ?_ | (refine block_other ?_ ?_; exact rfl) | (refine xc_true ?_ ?_; exact rfl) | (refine xc_false ?_ ?_; exact rfl) | ((with_reducible apply xs_guard); exact rfl; exact rfl; intro c hc; (fail_if_success (have : true = c := hc)); (fail_if_success (have : false = c := hc)); cases c) | (refine xc_if rfl (fun hc => ?_) (fun hc => ?_)) | (refine xc_cond rfl (fun hc => ?_) (fun hc => ?_)))
      refine dn (k := ?_)
      refine en (k := ?_)
      repeat' (first | refine vs (k := ?_) | refine ps (k := ?_) | (refine st hs (k := ?_); intro w hs) | (refine stA hs (k := ?_); intro w hs) | (refine al hs (k := ?_); intro b w hz hs) | (refine bx hs (k := ?_); intro b w hz hs) | (refine bs hs (k := ?_); intro b w hz hs) | refine XS.nil ?_ | refine then_of ?_ | refine xc_seq ?_ | (refine xc_region ?_ ?_; exact rfl) | refine xc_block ?_ | refine block_normal ?_ | refine xc_ret ?_ | refine then_ret ?_ | refine block_ret ?_ | refine xc_skip ?_ | refine xc_exit ?_ | refine then_exit ?_ | refine loopS_exit ?_ | refine loopS_ret ?_ | refine cutB_ret ?_ | refine cutN_ret ?_ | refine cutN_exit ?_ | refine block_exit ?_ | (refine block_other ?_ ?_; exact rfl) | (refine xc_true ?_ ?_; exact rfl) | (refine xc_false ?_ ?_; exact rfl) | ((with_reducible apply xs_guard); exact rfl; exact rfl; intro c hc; (fail_if_success (have : true = c := hc)); (fail_if_success (have : false = c := hc)); cases c) | (refine xc_if rfl (fun hc => ?_) (fun hc => ?_)) | (refine xc_cond rfl (fun hc => ?_) (fun hc => ?_)))
      refine loopS_next (k : Int) (by omega) (by (repeat (first | exact agree_nil | (apply agree_cons; first | exact rfl | exact congrArg (Value.int .i64) e1)))) ⟨by omega, by omega, ho.step (hs.onlyF [] (by simp [hb2]) (by simp [D0])) (by simp)⟩
    · exact cutB_exit () (by (repeat (first | exact agree_nil | (apply agree_cons; exact rfl)))) (ho.step (hs.only0 rfl) (by simp))
  · clear hs
    rintro _ env w ho
    have hs := St.nil w
    repeat' (first | refine vs (k := ?_) | refine ps (k := ?_) | (refine st hs (k := ?_); intro w hs) | (refine stA hs (k := ?_); intro w hs) | (refine al hs (k := ?_); intro b w hz hs) | (refine bx hs (k := ?_); intro b w hz hs) | (refine bs hs (k := ?_); intro b w hz hs) | refine XS.nil ?_ | refine then_of ?_ | refine xc_seq ?_ | (refine xc_region ?_ ?_; exact rfl) | refine xc_block ?_ | refine block_normal ?_ | refine xc_ret ?_ | refine then_ret ?_ | refine block_ret ?_ | refine xc_skip ?_ | refine xc_exit ?_ | refine then_exit ?_ | refine loopS_exit ?_ | refine loopS_ret ?_ | refine cutB_ret ?_ | refine cutN_ret ?_ | refine cutN_exit ?_ | refine block_exit ?_ | (refine block_other ?_ ?_; exact rfl) | (refine xc_true ?_ ?_; exact rfl) | (refine xc_false ?_ ?_; exact rfl) | ((with_reducible apply xs_guard); exact rfl; exact rfl; intro c hc; (fail_if_success (have : true = c := hc)); (fail_if_success (have : false = c := hc)); cases c) | (refine xc_if rfl (fun hc => ?_) (fun hc => ?_)) | (refine xc_cond rfl (fun hc => ?_) (fun hc => ?_)))
    first | refine rt (hq := ?_) | refine rt' (hq := ?_)
    exact ⟨rfl, ho.step (hs.only0 rfl) (by simp)⟩
end Go.Proofs.YtjooegonmdmajaaX
