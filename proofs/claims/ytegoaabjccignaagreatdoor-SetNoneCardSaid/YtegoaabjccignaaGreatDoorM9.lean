/- A part of the proof: what its functions compute. -/
import Derived.Test.YtegoaabjccignaaGreatDoorM8
set_option linter.unusedVariables false
set_option linter.unusedSimpArgs false
set_option maxRecDepth 100000
namespace Go.Proofs.YtegoaabjccignaaGreatDoorX.IB
open Go Go.RowKit
attribute [local irreducible] XS XC XA thenE blockE retE loopE loopS cutB cutN doneE SE
def treeOf (l : List IT) : RB IT := l.foldl (fun t x => RB.insert t x) .nil
theorem treeOf_snoc (l : List IT) (x : IT) : treeOf (l ++ [x]) = RB.insert (treeOf l) x := by unfold treeOf; rw [List.foldl_append]; rfl
theorem len_insert (t : RB IT) (x : IT) : (RB.insert t x).list.length ≤ t.list.length + 1 := by
  unfold RB.insert
  cases RB.has ltT x t
  · rw [cond_false, RB.list_blacken, len_ins]; exact Nat.le_refl _
  · rw [cond_true]; omega
theorem treeOf_len (l : List IT) : ∀ i, (treeOf (l.take i)).list.length ≤ i
  | 0 => by simp [treeOf, RB.list]
  | i + 1 => by
    rcases Nat.lt_or_ge i l.length with h | h
    · rw [take_next h, treeOf_snoc]
      have := treeOf_len l i
      have := len_insert (treeOf (l.take i)) l[i]
      omega
    · have := treeOf_len l i
      rw [List.take_of_length_le h] at this
      rw [List.take_of_length_le (by omega)]
      omega
theorem Obj6.keepD {w w' : World} {tb : Nat} {t : RB IT} {F G : List Nat} (h : Obj6 w tb t F) (ho : Only G w w') (hd : ∀ k ∈ F, k ∉ G) : Obj6 w' tb t F := by
  obtain ⟨p, fp, rfl, h1, h2, h3⟩ := h
  exact ⟨p, fp, rfl, ho.block h1 (hd tb List.mem_cons_self), h2.keepD ho (fun k hk => hd k (List.mem_cons_of_mem _ hk)), h3⟩
theorem Obj6.only {w w' : World} {tb : Nat} {t : RB IT} {F : List Nat} (h : Obj6 w tb t F) (ho : Only [] w w') : Obj6 w' tb t F := h.keepD ho (by simp)
theorem Obj6.lt {w : World} {tb : Nat} {t : RB IT} {F : List Nat} (h : Obj6 w tb t F) : ∀ b ∈ F, b < w.heap.size := by
  obtain ⟨p, fp, rfl, h1, h2, h3⟩ := h
  intro b hb
  rcases List.mem_cons.1 hb with rfl | hb
  · exact lt_of_block h1
  · exact h2.nodes.lt b hb
theorem Obj6.not {w : World} {tb : Nat} {t : RB IT} {F : List Nat} (h : Obj6 w tb t F) {b : Nat} {cs : Array Value} {ty : Nat} {fz : Nat × Nat} (hb : w.heap[b]? = some (.cells cs ty fz)) (h1 : ty ≠ 147) (h2 : ty ≠ 140) : b ∉ F := fun hm => by
  obtain ⟨p, fp, rfl, k1, k2, k3⟩ := h
  rcases List.mem_cons.1 hm with rfl | hm
  · exact blocks_ne hb k1 h2 rfl
  · obtain ⟨cs', fz', k4⟩ := k2.nodes b hm
    exact blocks_ne hb k4 h1 rfl
set_option maxHeartbeats 2000000 in
theorem newTree_ret (l : List IT) (sl : Value) (hm : l.length ≤ 1000000) (w0 : World) (hP : ITsAt w0 sl l) :
    Ret Tryz.prog 46 #[sl] w0 fun v w' => (∃ tb F, v = .agg #[.pointer (some ⟨tb, 0, none⟩)] ∧ Obj6 w' tb (treeOf l) F ∧ ∀ k ∈ F, w0.heap.size ≤ k) ∧ Only [] w0 w' := by
  obtain ⟨ad, cap, rfl, hD⟩ := hP
  rw [List.length_map, List.length_map] at *
  have hs := St.nil w0
  refine ret_of_xc Tryz.func46 (by kernel_rfl) rfl Tryz.ntmps46 rfl rfl rfl ?_
  refine xc_seq ?_
  refine xc_region ?_ ?_; exact rfl
  refine al hs (k := ?_); intro b2 w hz hs
  repeat' (first|refine vs (k:=?_)|refine ps (k:=?_)|((first|refine st hs (k:=?_)|refine stA hs (k:=?_));intro w hs)|((first|refine al hs (k:=?_)|refine bx hs (k:=?_)|refine bs hs (k:=?_));intro b w hz hs)|refine qRg ?_|refine Nx.h ?_|refine qBo ?_|refine qCt ?_|refine qCf ?_|((with_reducible apply xs_guard);exact rfl;exact rfl;intro c hc;(fail_if_success have:true=c:=hc);(fail_if_success have:false=c:=hc);cases c)|(refine xc_if rfl (fun hc=>?_) (fun hc=>?_))|(refine xc_cond rfl (fun hc=>?_) (fun hc=>?_)))
  (with_reducible apply xs_call); exact rfl; exact rfl; exact rbNewOf_ret _
  rintro v w1 ⟨⟨tb, F0, rfl, hT0, hF0⟩, ho⟩; replace hs := hs.call0 ho
  have n2 := hs.new (b2, true) (by simp) rfl
  simp only at n2
  have hb2 := hs.get At.head
  have ho1 : Only [] w0 w1 := hs.only0 rfl
  have hz1 := ho1.size
  have hF1 : ∀ k ∈ F0, w0.heap.size ≤ k := fun k hk => by have := hF0 k hk; omega
  clear hs
  have hs := (St.nil w1).track hb2 (by simp)
  refine vs (k := ?_)
  refine al hs (k := ?_); intro b3 w3 hz3 hs
  repeat' (first|refine vs (k:=?_)|refine ps (k:=?_)|((first|refine st hs (k:=?_)|refine stA hs (k:=?_));intro w hs)|((first|refine al hs (k:=?_)|refine bx hs (k:=?_)|refine bs hs (k:=?_));intro b w hz hs)|refine qRg ?_|refine Nx.h ?_|refine qBo ?_|refine qCt ?_|refine qCf ?_|((with_reducible apply xs_guard);exact rfl;exact rfl;intro c hc;(fail_if_success have:true=c:=hc);(fail_if_success have:false=c:=hc);cases c)|(refine xc_if rfl (fun hc=>?_) (fun hc=>?_))|(refine xc_cond rfl (fun hc=>?_) (fun hc=>?_)))
  have n3 := hs.new (b3, true) (by simp) rfl
  simp only at n3
  have ho2 := hs.onlyF [] (by simp [hb2]) (by simp [D0])
  refine xc_cutB (fun (_ : Unit) => [(2, .pointer (some ⟨b2, 0, none⟩)), (3, .pointer (some ⟨b3, 0, none⟩))])
    (fun _ w => Only [] w0 w ∧ w.heap[b2]? = some (.cells #[.pointer none] 80 (0, 0)) ∧ w.heap[b3]? = some (.cells #[.pointer (some ⟨tb, 0, none⟩)] 80 (0, 0)) ∧ ∃ F, Obj6 w tb (treeOf l) F ∧ ∀ k ∈ F, w0.heap.size ≤ k) ?_ ?_
  · refine xc_loopS (fun (i : Nat) => [(2, .pointer (some ⟨b2, 0, none⟩)), (3, .pointer (some ⟨b3, 0, none⟩)), (8, .slice ad l.length cap), (9, .int .i64 (l.length : Nat)), (10, .int .i64 (i : Nat))])
      (fun i w => i ≤ l.length ∧ Only [] w0 w ∧ w.heap[b2]? = some (.cells #[.pointer none] 80 (0, 0)) ∧ w.heap[b3]? = some (.cells #[.pointer (some ⟨tb, 0, none⟩)] 80 (0, 0)) ∧ ∃ F, Obj6 w tb (treeOf (l.take i)) F ∧ ∀ k ∈ F, w0.heap.size ≤ k)
      (fun i => l.length - i) 0 (by (repeat (first | exact agree_nil | (apply agree_cons; exact rfl)))) ⟨Nat.zero_le _, ho1.step ho2 (by simp), hs.get (At.tail At.head), hs.get At.head, F0, hT0.only ho2, hF1⟩ fun i env w ⟨hi, ho, h2, h3, F, hT, hF⟩ => ?_
    clear hs ho2
    have hs := (St.nil w).track h3 (by simp)
    repeat' (first|refine vs (k:=?_)|refine ps (k:=?_)|((first|refine st hs (k:=?_)|refine stA hs (k:=?_));intro w hs)|((first|refine al hs (k:=?_)|refine bx hs (k:=?_)|refine bs hs (k:=?_));intro b w hz hs)|refine qRg ?_|refine Nx.h ?_|refine qBo ?_|refine qCt ?_|refine qCf ?_|((with_reducible apply xs_guard);exact rfl;exact rfl;intro c hc;(fail_if_success have:true=c:=hc);(fail_if_success have:false=c:=hc);cases c)|(refine xc_if rfl (fun hc=>?_) (fun hc=>?_))|(refine xc_cond rfl (fun hc=>?_) (fun hc=>?_)))
    · have hlt : i < l.length := by omega
      obtain ⟨b, off, cs, fz, rfl, _, hb, hcs⟩ := hD (fun h => by have := congrArg List.length h; rw [List.length_map, List.length_map, List.length_nil] at this; omega)
      have hpk := hcs i (It.cells l[i].1) (by rw [List.getElem?_map, List.getElem?_map, List.getElem?_eq_getElem hlt]; rfl)
      have ei := nx64 hlt (show l.length ≤ 9223372036854775807 by omega)
      have hsn := treeOf_snoc (l.take i) l[i]
      rw [← take_next hlt] at hsn
      have hlen := treeOf_len l i
      generalize l[i] = x at *
      refine ix (h0 := (by omega)) (h1 := (by omega)) (k := ?_)
      refine lhK (ho.block hb (by simp)) hpk (k := ?_)
      refine al hs (k := ?_); intro b5 w5 hz5 hs
      repeat' (first|refine vs (k:=?_)|refine ps (k:=?_)|((first|refine st hs (k:=?_)|refine stA hs (k:=?_));intro w hs)|((first|refine al hs (k:=?_)|refine bx hs (k:=?_)|refine bs hs (k:=?_));intro b w hz hs)|refine qRg ?_|refine Nx.h ?_|refine qBo ?_|refine qCt ?_|refine qCf ?_|((with_reducible apply xs_guard);exact rfl;exact rfl;intro c hc;(fail_if_success have:true=c:=hc);(fail_if_success have:false=c:=hc);cases c)|(refine xc_if rfl (fun hc=>?_) (fun hc=>?_))|(refine xc_cond rfl (fun hc=>?_) (fun hc=>?_)))
      have ho3 := hs.onlyF [] (by simp [h3]) (by simp [D0])
      (with_reducible apply xs_call); exact rfl; exact rfl; exact rbInsert_ret tb _ F x _ (hT.only ho3) (by omega)
      rintro v w6 ⟨rfl, F', hT', hF', ho6⟩
      have k3 := ho6.block (hs.get (At.tail At.head)) ((hT.only ho3).not (hs.get (At.tail At.head)) (by decide) (by decide))
      have k2 := ho6.block (ho3.block h2 (by simp)) ((hT.only ho3).not (ho3.block h2 (by simp)) (by decide) (by decide))
      have hz3 := ho3.size
      have hzz := ho.size
      clear hs
      have hs := St.nil w6
      repeat' (first|refine vs (k:=?_)|refine ps (k:=?_)|((first|refine st hs (k:=?_)|refine stA hs (k:=?_));intro w hs)|((first|refine al hs (k:=?_)|refine bx hs (k:=?_)|refine bs hs (k:=?_));intro b w hz hs)|refine qRg ?_|refine Nx.h ?_|refine qBo ?_|refine qCt ?_|refine qCf ?_|((with_reducible apply xs_guard);exact rfl;exact rfl;intro c hc;(fail_if_success have:true=c:=hc);(fail_if_success have:false=c:=hc);cases c)|(refine xc_if rfl (fun hc=>?_) (fun hc=>?_))|(refine xc_cond rfl (fun hc=>?_) (fun hc=>?_)))
      refine loopS_next (i + 1) (by omega) (by (repeat (first | exact agree_nil | (apply agree_cons; first | exact rfl | exact congrArg (Value.int .i64) ei)))) ⟨by omega, (ho.step ho3 (by simp)).step (ho6.trans (hs.only0 rfl)) (fun k hk => ?_), k2, k3, F', by rw [hsn]; exact hT', fun k hk => ?_⟩
      · rw [List.append_nil] at hk
        exact .inr (hF k hk)
      · rcases hF' k hk with h | h
        · exact hF k h
        · omega
    · have e : i = l.length := by omega
      rw [e, List.take_length] at hT
      exact cutB_exit () (by (repeat (first | exact agree_nil | (apply agree_cons; exact rfl)))) ⟨ho, h2, h3, F, hT, hF⟩
  · rintro _ env w ⟨ho, h2, h3, F, hT, hF⟩
    clear hs ho2
    by_cases g3 : b3 = b2
    · subst g3; rw [h2] at h3; cases h3
    have hs := ((St.nil w).track h3 (by simp)).track h2 (by simpa using Ne.symm g3)
    repeat' (first|refine vs (k:=?_)|refine ps (k:=?_)|((first|refine st hs (k:=?_)|refine stA hs (k:=?_));intro w hs)|((first|refine al hs (k:=?_)|refine bx hs (k:=?_)|refine bs hs (k:=?_));intro b w hz hs)|refine qRg ?_|refine Nx.h ?_|refine qBo ?_|refine qCt ?_|refine qCf ?_|((with_reducible apply xs_guard);exact rfl;exact rfl;intro c hc;(fail_if_success have:true=c:=hc);(fail_if_success have:false=c:=hc);cases c)|(refine xc_if rfl (fun hc=>?_) (fun hc=>?_))|(refine xc_cond rfl (fun hc=>?_) (fun hc=>?_)))
    first | refine rt (hq := ?_) | refine rt' (hq := ?_)
    have ho4 := hs.onlyF [b2] (by simp [h3]) (by simp [D0])
    exact ⟨⟨tb, F, rfl, hT.keepD ho4 (fun k hk hm => by obtain rfl := List.mem_singleton.1 hm; exact hT.not h2 (by decide) (by decide) hk), hF⟩, ho.step ho4 (by simp [n2])⟩
theorem plain_ret (id t d : Int) (w0 : World) : Ret Tryz.prog 181 #[.int .i64 id, .int .u64 t, .int .u64 d] w0 fun v w' => v = iv ⟨⟨t, 0, 1⟩, id, ⟨d, 0, 1⟩⟩ ∧ Only [] w0 w' := by
  have hs := St.nil w0
  refine ret_of_xc Tryz.func181 (by kernel_rfl) rfl Tryz.ntmps181 rfl rfl rfl ?_
  repeat' (first|refine vs (k:=?_)|refine ps (k:=?_)|((first|refine st hs (k:=?_)|refine stA hs (k:=?_));intro w hs)|((first|refine al hs (k:=?_)|refine bx hs (k:=?_)|refine bs hs (k:=?_));intro b w hz hs)|refine qRg ?_|refine Nx.h ?_|refine qBo ?_|refine qCt ?_|refine qCf ?_|((with_reducible apply xs_guard);exact rfl;exact rfl;intro c hc;(fail_if_success have:true=c:=hc);(fail_if_success have:false=c:=hc);cases c)|(refine xc_if rfl (fun hc=>?_) (fun hc=>?_))|(refine xc_cond rfl (fun hc=>?_) (fun hc=>?_)))
  first | refine rt (hq := ?_) | refine rt' (hq := ?_)
  exact ⟨rfl, hs.only0 rfl⟩
theorem q7_ret (a : It) (w0 : World) : Ret Tryz.prog 182 #[iv a] w0 fun v w' => v = .bool (decide (a.p.t < 3)) ∧ Only [] w0 w' := by
  have hs := St.nil w0
  refine ret_of_xc Tryz.func182 (by kernel_rfl) rfl Tryz.ntmps182 rfl rfl rfl ?_
  repeat' (first|refine vs (k:=?_)|refine ps (k:=?_)|((first|refine st hs (k:=?_)|refine stA hs (k:=?_));intro w hs)|((first|refine al hs (k:=?_)|refine bx hs (k:=?_)|refine bs hs (k:=?_));intro b w hz hs)|refine qRg ?_|refine Nx.h ?_|refine qBo ?_|refine qCt ?_|refine qCf ?_|((with_reducible apply xs_guard);exact rfl;exact rfl;intro c hc;(fail_if_success have:true=c:=hc);(fail_if_success have:false=c:=hc);cases c)|(refine xc_if rfl (fun hc=>?_) (fun hc=>?_))|(refine xc_cond rfl (fun hc=>?_) (fun hc=>?_)))
  first | refine rt (hq := ?_) | refine rt' (hq := ?_)
  exact ⟨rfl, hs.only0 rfl⟩
theorem dsoonest_ret (tb : Nat) (t : RB IT) (F : List Nat) (w0 : World) (h : Obj6 w0 tb t F) (fid : Nat) (caps : List Value) (q : IT → Bool)
    (hq : ∀ (y : IT) (w : World), y ∈ t.list → Only [] w0 w → Ret Tryz.prog fid (iv y.1 :: caps).toArray w fun v w' => v = .bool (q y) ∧ Only [] w w') :
    Ret Tryz.prog 38 #[.agg #[.pointer (some ⟨tb, 0, none⟩)], .func (.func fid) #[] caps.toArray] w0 fun v w' => v = .tuple #[iv (valO (foldT q t none)), .bool (foldT q t none).isSome] ∧ Only [] w0 w' := by
  have hs := St.nil w0
  refine ret_of_xc Tryz.func38 (by kernel_rfl) rfl Tryz.ntmps38 rfl rfl rfl ?_
  repeat' (first|refine vs (k:=?_)|refine ps (k:=?_)|((first|refine st hs (k:=?_)|refine stA hs (k:=?_));intro w hs)|((first|refine al hs (k:=?_)|refine bx hs (k:=?_)|refine bs hs (k:=?_));intro b w hz hs)|refine qRg ?_|refine Nx.h ?_|refine qBo ?_|refine qCt ?_|refine qCf ?_|((with_reducible apply xs_guard);exact rfl;exact rfl;intro c hc;(fail_if_success have:true=c:=hc);(fail_if_success have:false=c:=hc);cases c)|(refine xc_if rfl (fun hc=>?_) (fun hc=>?_))|(refine xc_cond rfl (fun hc=>?_) (fun hc=>?_)))
  have ho := hs.only0 rfl
  (with_reducible apply xs_call); exact rfl; exact rfl; exact fold_ret tb t F _ (h.only ho) fid caps q (fun y w hy hw => hq y w hy (ho.step hw (by simp)))
  rintro v w' ⟨rfl, ho⟩; replace hs := hs.call0 ho; repeat' (first|refine vs (k:=?_)|refine ps (k:=?_)|((first|refine st hs (k:=?_)|refine stA hs (k:=?_));intro w hs)|((first|refine al hs (k:=?_)|refine bx hs (k:=?_)|refine bs hs (k:=?_));intro b w hz hs)|refine qRg ?_|refine Nx.h ?_|refine qBo ?_|refine qCt ?_|refine qCf ?_|((with_reducible apply xs_guard);exact rfl;exact rfl;intro c hc;(fail_if_success have:true=c:=hc);(fail_if_success have:false=c:=hc);cases c)|(refine xc_if rfl (fun hc=>?_) (fun hc=>?_))|(refine xc_cond rfl (fun hc=>?_) (fun hc=>?_)))
  first | refine rt (hq := ?_) | refine rt' (hq := ?_)
  exact ⟨rfl, hs.only0 rfl⟩
theorem Awake6_ret (w0 : World) : Ret Tryz.prog 184 #[] w0 fun v w' => v = .bool true ∧ Only [] w0 w' := by
  have hs := St.nil w0
  refine ret_of_xc Tryz.func184 (by kernel_rfl) rfl Tryz.ntmps184 rfl rfl rfl ?_
  repeat' (first|refine vs (k:=?_)|refine ps (k:=?_)|((first|refine st hs (k:=?_)|refine stA hs (k:=?_));intro w hs)|((first|refine al hs (k:=?_)|refine bx hs (k:=?_)|refine bs hs (k:=?_));intro b w hz hs)|refine qRg ?_|refine Nx.h ?_|refine qBo ?_|refine qCt ?_|refine qCf ?_|((with_reducible apply xs_guard);exact rfl;exact rfl;intro c hc;(fail_if_success have:true=c:=hc);(fail_if_success have:false=c:=hc);cases c)|(refine xc_if rfl (fun hc=>?_) (fun hc=>?_))|(refine xc_cond rfl (fun hc=>?_) (fun hc=>?_)))
  (with_reducible apply xs_call); exact rfl; exact rfl; exact awake6_ret _
  rintro v w' ⟨rfl, ho⟩; replace hs := hs.call0 ho; repeat' (first|refine vs (k:=?_)|refine ps (k:=?_)|((first|refine st hs (k:=?_)|refine stA hs (k:=?_));intro w hs)|((first|refine al hs (k:=?_)|refine bx hs (k:=?_)|refine bs hs (k:=?_));intro b w hz hs)|refine qRg ?_|refine Nx.h ?_|refine qBo ?_|refine qCt ?_|refine qCf ?_|((with_reducible apply xs_guard);exact rfl;exact rfl;intro c hc;(fail_if_success have:true=c:=hc);(fail_if_success have:false=c:=hc);cases c)|(refine xc_if rfl (fun hc=>?_) (fun hc=>?_))|(refine xc_cond rfl (fun hc=>?_) (fun hc=>?_)))
  first | refine rt (hq := ?_) | refine rt' (hq := ?_)
  exact ⟨rfl, hs.only0 rfl⟩
def ex1 : IT := ⟨⟨⟨1, 0, 1⟩, 1, ⟨9, 0, 1⟩⟩, by decide⟩
def ex2 : IT := ⟨⟨⟨2, 0, 1⟩, 2, ⟨5, 0, 1⟩⟩, by decide⟩
def ex3 : IT := ⟨⟨⟨3, 0, 1⟩, 3, ⟨4, 0, 1⟩⟩, by decide⟩
theorem its_arr {w : World} {b : Nat} {l : List IT} (hn : l.length = 3) (hb : w.heap[b]? = some (.cells (flatT l).toArray 34 (0, 0))) : ITsAt w (.slice (some ⟨b, 0, none⟩) 3 3) l := by
  have e : (flatT l).length = 21 := by
    have : ∀ l : List IT, (flatT l).length = 7 * l.length := fun l => by
      induction l with
      | nil => rfl
      | cons a l ih => unfold flatT at ih ⊢; rw [List.map_cons, List.flatten_cons, List.length_append, ih, show (a.1.cells).length = 7 from rfl, List.length_cons]; omega
    rw [this, hn]
  refine its_of (G := [b]) (.inr ⟨b, 3, flatT l, by rw [hn], rfl, by omega, by rw [e], by rw [e, hn], ?_, hb⟩)
  rw [hn]
  exact List.take_of_length_le (by rw [e]; exact Nat.le_refl _)
set_option maxHeartbeats 2000000 in
theorem awake7_ret (w0 : World) : Ret Tryz.prog 178 #[] w0 fun v w' => v = .bool true ∧ Only [] w0 w' := by
  have hs := St.nil w0
  refine ret_of_xc Tryz.func178 (by kernel_rfl) rfl Tryz.ntmps178 rfl rfl rfl ?_
  repeat' (first|refine vs (k:=?_)|refine ps (k:=?_)|((first|refine st hs (k:=?_)|refine stA hs (k:=?_));intro w hs)|((first|refine al hs (k:=?_)|refine bx hs (k:=?_)|refine bs hs (k:=?_));intro b w hz hs)|refine qRg ?_|refine Nx.h ?_|refine qBo ?_|refine qCt ?_|refine qCf ?_|((with_reducible apply xs_guard);exact rfl;exact rfl;intro c hc;(fail_if_success have:true=c:=hc);(fail_if_success have:false=c:=hc);cases c)|(refine xc_if rfl (fun hc=>?_) (fun hc=>?_))|(refine xc_cond rfl (fun hc=>?_) (fun hc=>?_)))
  (with_reducible apply xs_call); exact rfl; exact rfl; exact plain_ret 1 1 9 _
  rintro v w' ⟨rfl, ho⟩; replace hs := hs.call0 ho; repeat' (first|refine vs (k:=?_)|refine ps (k:=?_)|((first|refine st hs (k:=?_)|refine stA hs (k:=?_));intro w hs)|((first|refine al hs (k:=?_)|refine bx hs (k:=?_)|refine bs hs (k:=?_));intro b w hz hs)|refine qRg ?_|refine Nx.h ?_|refine qBo ?_|refine qCt ?_|refine qCf ?_|((with_reducible apply xs_guard);exact rfl;exact rfl;intro c hc;(fail_if_success have:true=c:=hc);(fail_if_success have:false=c:=hc);cases c)|(refine xc_if rfl (fun hc=>?_) (fun hc=>?_))|(refine xc_cond rfl (fun hc=>?_) (fun hc=>?_)))
  (with_reducible apply xs_call); exact rfl; exact rfl; exact plain_ret 2 2 5 _
  rintro v w' ⟨rfl, ho⟩; replace hs := hs.call0 ho; repeat' (first|refine vs (k:=?_)|refine ps (k:=?_)|((first|refine st hs (k:=?_)|refine stA hs (k:=?_));intro w hs)|((first|refine al hs (k:=?_)|refine bx hs (k:=?_)|refine bs hs (k:=?_));intro b w hz hs)|refine qRg ?_|refine Nx.h ?_|refine qBo ?_|refine qCt ?_|refine qCf ?_|((with_reducible apply xs_guard);exact rfl;exact rfl;intro c hc;(fail_if_success have:true=c:=hc);(fail_if_success have:false=c:=hc);cases c)|(refine xc_if rfl (fun hc=>?_) (fun hc=>?_))|(refine xc_cond rfl (fun hc=>?_) (fun hc=>?_)))
  (with_reducible apply xs_call); exact rfl; exact rfl; exact plain_ret 3 3 4 _
  rintro v w' ⟨rfl, ho⟩; replace hs := hs.call0 ho; repeat' (first|refine vs (k:=?_)|refine ps (k:=?_)|((first|refine st hs (k:=?_)|refine stA hs (k:=?_));intro w hs)|((first|refine al hs (k:=?_)|refine bx hs (k:=?_)|refine bs hs (k:=?_));intro b w hz hs)|refine qRg ?_|refine Nx.h ?_|refine qBo ?_|refine qCt ?_|refine qCf ?_|((with_reducible apply xs_guard);exact rfl;exact rfl;intro c hc;(fail_if_success have:true=c:=hc);(fail_if_success have:false=c:=hc);cases c)|(refine xc_if rfl (fun hc=>?_) (fun hc=>?_))|(refine xc_cond rfl (fun hc=>?_) (fun hc=>?_)))
  (with_reducible apply xs_call); exact rfl; exact rfl; exact newTree_ret [ex1, ex2, ex3] _ (by decide) _ (its_arr rfl (hs.get At.head))
  rintro v w1 ⟨⟨tb, F, rfl, hT, hF⟩, ho⟩; replace hs := hs.call0 ho
  have ho1 : Only [] w0 w1 := hs.only0 rfl
  clear hs
  have hs := St.nil w1
  repeat' (first|refine vs (k:=?_)|refine ps (k:=?_)|((first|refine st hs (k:=?_)|refine stA hs (k:=?_));intro w hs)|((first|refine al hs (k:=?_)|refine bx hs (k:=?_)|refine bs hs (k:=?_));intro b w hz hs)|refine qRg ?_|refine Nx.h ?_|refine qBo ?_|refine qCt ?_|refine qCf ?_|((with_reducible apply xs_guard);exact rfl;exact rfl;intro c hc;(fail_if_success have:true=c:=hc);(fail_if_success have:false=c:=hc);cases c)|(refine xc_if rfl (fun hc=>?_) (fun hc=>?_))|(refine xc_cond rfl (fun hc=>?_) (fun hc=>?_)))
  (with_reducible apply xs_call); exact rfl; exact rfl; exact dsoonest_ret tb _ F _ (hT.only (hs.only0 rfl)) 182 [] (fun y => decide (y.1.p.t < 3)) (fun y w _ _ => q7_ret y.1 w)
  rw [show (foldT (fun y => decide (y.1.p.t < 3)) (treeOf [ex1, ex2, ex3]) none) = some ex2 from by kernel_rfl]
  rintro v w' ⟨rfl, ho⟩; replace hs := hs.call0 ho; repeat' (first|refine vs (k:=?_)|refine ps (k:=?_)|((first|refine st hs (k:=?_)|refine stA hs (k:=?_));intro w hs)|((first|refine al hs (k:=?_)|refine bx hs (k:=?_)|refine bs hs (k:=?_));intro b w hz hs)|refine qRg ?_|refine Nx.h ?_|refine qBo ?_|refine qCt ?_|refine qCf ?_|((with_reducible apply xs_guard);exact rfl;exact rfl;intro c hc;(fail_if_success have:true=c:=hc);(fail_if_success have:false=c:=hc);cases c)|(refine xc_if rfl (fun hc=>?_) (fun hc=>?_))|(refine xc_cond rfl (fun hc=>?_) (fun hc=>?_)))
  (with_reducible apply xs_call); exact rfl; exact rfl; exact Awake5_ret _
  rintro v w' ⟨rfl, ho⟩; replace hs := hs.call0 ho; repeat' (first|refine vs (k:=?_)|refine ps (k:=?_)|((first|refine st hs (k:=?_)|refine stA hs (k:=?_));intro w hs)|((first|refine al hs (k:=?_)|refine bx hs (k:=?_)|refine bs hs (k:=?_));intro b w hz hs)|refine qRg ?_|refine Nx.h ?_|refine qBo ?_|refine qCt ?_|refine qCf ?_|((with_reducible apply xs_guard);exact rfl;exact rfl;intro c hc;(fail_if_success have:true=c:=hc);(fail_if_success have:false=c:=hc);cases c)|(refine xc_if rfl (fun hc=>?_) (fun hc=>?_))|(refine xc_cond rfl (fun hc=>?_) (fun hc=>?_)))
  (with_reducible apply xs_call); exact rfl; exact rfl; exact Awake6_ret _
  rintro v w' ⟨rfl, ho⟩; replace hs := hs.call0 ho; repeat' (first|refine vs (k:=?_)|refine ps (k:=?_)|((first|refine st hs (k:=?_)|refine stA hs (k:=?_));intro w hs)|((first|refine al hs (k:=?_)|refine bx hs (k:=?_)|refine bs hs (k:=?_));intro b w hz hs)|refine qRg ?_|refine Nx.h ?_|refine qBo ?_|refine qCt ?_|refine qCf ?_|((with_reducible apply xs_guard);exact rfl;exact rfl;intro c hc;(fail_if_success have:true=c:=hc);(fail_if_success have:false=c:=hc);cases c)|(refine xc_if rfl (fun hc=>?_) (fun hc=>?_))|(refine xc_cond rfl (fun hc=>?_) (fun hc=>?_)))
  first | refine rt (hq := ?_) | refine rt' (hq := ?_)
  exact ⟨rfl, ho1.trans (hs.only0 rfl)⟩
theorem Awake7_ret (w0 : World) : Ret Tryz.prog 176 #[] w0 fun v w' => v = .bool true ∧ Only [] w0 w' := by
  have hs := St.nil w0
  refine ret_of_xc Tryz.func176 (by kernel_rfl) rfl Tryz.ntmps176 rfl rfl rfl ?_
  repeat' (first|refine vs (k:=?_)|refine ps (k:=?_)|((first|refine st hs (k:=?_)|refine stA hs (k:=?_));intro w hs)|((first|refine al hs (k:=?_)|refine bx hs (k:=?_)|refine bs hs (k:=?_));intro b w hz hs)|refine qRg ?_|refine Nx.h ?_|refine qBo ?_|refine qCt ?_|refine qCf ?_|((with_reducible apply xs_guard);exact rfl;exact rfl;intro c hc;(fail_if_success have:true=c:=hc);(fail_if_success have:false=c:=hc);cases c)|(refine xc_if rfl (fun hc=>?_) (fun hc=>?_))|(refine xc_cond rfl (fun hc=>?_) (fun hc=>?_)))
  (with_reducible apply xs_call); exact rfl; exact rfl; exact awake7_ret _
  rintro v w' ⟨rfl, ho⟩; replace hs := hs.call0 ho; repeat' (first|refine vs (k:=?_)|refine ps (k:=?_)|((first|refine st hs (k:=?_)|refine stA hs (k:=?_));intro w hs)|((first|refine al hs (k:=?_)|refine bx hs (k:=?_)|refine bs hs (k:=?_));intro b w hz hs)|refine qRg ?_|refine Nx.h ?_|refine qBo ?_|refine qCt ?_|refine qCf ?_|((with_reducible apply xs_guard);exact rfl;exact rfl;intro c hc;(fail_if_success have:true=c:=hc);(fail_if_success have:false=c:=hc);cases c)|(refine xc_if rfl (fun hc=>?_) (fun hc=>?_))|(refine xc_cond rfl (fun hc=>?_) (fun hc=>?_)))
  first | refine rt (hq := ?_) | refine rt' (hq := ?_)
  exact ⟨rfl, hs.only0 rfl⟩
end Go.Proofs.YtegoaabjccignaaGreatDoorX.IB

namespace Go.Proofs.YtegoaabjccignaaGreatDoorX.IB
open Go Go.RowKit
attribute [local irreducible] XS XC XA thenE blockE retE loopE loopS cutB cutN doneE SE
def rootC (l r : RB IT) (c : Bool) : Bool := bif !l.red && !r.red then true else c
def delC (x : IT) : RB IT → Option (RB IT)
  | .nil => none
  | .node l y r c => RB.cut ltT x (RB.node l y r c).list.length (.node l y r (rootC l r c))
structure DelI (w1 : World) (b tb bq : Nat) (y : IT) (av : It) (pl pr : Option Addr) (n : Int) (x : IT) (q : Bool) (w : World) : Prop where
  o : Only [b] w1 w
  hb : w.heap[b]? = some (nodeO y av pl pr q)
  hT : w.heap[tb]? = some (treeO (some ⟨b, 0, none⟩) n)
  hQ : w.heap[bq]? = some (itqO x.1)
set_option maxHeartbeats 4000000 in
theorem rbDelete_ret (tb : Nat) (t : RB IT) (F : List Nat) (x : IT) (t1 : RB IT) (w0 : World) (h : Obj6 w0 tb t F) (hd : RB.has ltT x t = true → delC x t = some t1 ∧ t1.list.length + 1 = t.list.length) (hlen : t.list.length ≤ 1000000) :
    Ret Tryz.prog 75 #[.pointer (some ⟨tb, 0, none⟩), iv x.1] w0 fun v w' => v = .bool (RB.has ltT x t) ∧ ∃ F', Obj6 w' tb (bif RB.has ltT x t then RB.blacken t1 else t) F' ∧ (∀ k ∈ F', k ∈ F ∨ w0.heap.size ≤ k) ∧ Only F w0 w' := by
  obtain ⟨p, fp, rfl, hT, ht, hnd⟩ := h
  have hs := St.nil w0
  have lt1 := lt_of_block hT
  have lt3 := ht.nodes.lt
  refine ret_of_xc Tryz.func75 (by kernel_rfl) rfl Tryz.ntmps75 rfl rfl rfl ?_; refine xc_seq ?_; refine xc_region ?_ ?_; exact rfl; refine bx hs (k := ?_); intro bq wq hzq hs; repeat' (first|refine vs (k:=?_)|refine ps (k:=?_)|((first|refine st hs (k:=?_)|refine stA hs (k:=?_));intro w hs)|((first|refine al hs (k:=?_)|refine bx hs (k:=?_)|refine bs hs (k:=?_));intro b w hz hs)|refine qRg ?_|refine Nx.h ?_|refine qBo ?_|refine qCt ?_|refine qCf ?_|((with_reducible apply xs_guard);exact rfl;exact rfl;intro c hc;(fail_if_success have:true=c:=hc);(fail_if_success have:false=c:=hc);cases c)|(refine xc_if rfl (fun hc=>?_) (fun hc=>?_))|(refine xc_cond rfl (fun hc=>?_) (fun hc=>?_)))
  have hbq := hs.new (bq, true) (by simp) rfl
  simp only at hbq
  have ho0 := hs.only0 rfl
  (with_reducible apply xs_call); exact rfl; exact rfl; exact has_ret tb p _ t fp x _ (ho0.block hT (by simp)) (ht.keep ho0 (Nodes.nil _) (by simp))
  rintro v w1 ⟨rfl, ho⟩; replace hs := hs.call0 ho
  have ho1 := hs.only0 rfl
  cases hh : RB.has ltT x t
  · rw [cond_false]
    repeat' (first|refine vs (k:=?_)|refine ps (k:=?_)|((first|refine st hs (k:=?_)|refine stA hs (k:=?_));intro w hs)|((first|refine al hs (k:=?_)|refine bx hs (k:=?_)|refine bs hs (k:=?_));intro b w hz hs)|refine qRg ?_|refine Nx.h ?_|refine qBo ?_|refine qCt ?_|refine qCf ?_|((with_reducible apply xs_guard);exact rfl;exact rfl;intro c hc;(fail_if_success have:true=c:=hc);(fail_if_success have:false=c:=hc);cases c)|(refine xc_if rfl (fun hc=>?_) (fun hc=>?_))|(refine xc_cond rfl (fun hc=>?_) (fun hc=>?_)))
    first | refine rt (hq := ?_) | refine rt' (hq := ?_)
    have ho1 := hs.only0 rfl
    exact ⟨rfl, tb :: fp, Obj6.only ⟨p, fp, rfl, hT, ht, hnd⟩ ho1, fun k hk => .inl hk, ho1.weaken (by simp)⟩
  · rw [cond_true]
    obtain ⟨hd, hln⟩ := hd hh
    cases t with
    | nil => cases hh
    | node l y r c =>
    unfold delC at hd
    obtain ⟨b, av, pl, pr, fl, fr, rfl, rfl, hb, hav, hl, hr⟩ := ht
    have hbt := head_ne hT hb
    have hT1 := head_keep hT ho1 (Nodes.nil _)
    have hb1 := ho1.block hb (by simp)
    have hl1 := hl.keep ho1 (Nodes.nil _) (by simp)
    have hr1 := hr.keep ho1 (Nodes.nil _) (by simp)
    have hN1 : Nodes w1 [b] := Nodes.cons hb1 (Nodes.nil _)
    have hbn : b ∉ fl ∧ b ∉ fr := by simp only [List.nodup_cons, List.mem_append, not_or] at hnd; exact hnd.1
    have hQ1 := hs.get At.head
    have hI1 : DelI w1 b tb bq y av pl pr ((RB.node l y r c).list.length : Nat) x c w1 := ⟨Only.refl _ _, hb1, hT1, hQ1⟩
    clear hs
    have hs := ((St.nil w1).track hT1 (by simp)).track hb1 (by simpa using hbt)
    have elen : IntKind.i64.wrap (((RB.node l y r c).list.length : Nat) - 1) = ((t1.list.length : Nat) : Int) := by
      rw [i64_small (by omega) (by omega)]
      omega
    repeat' (first|refine vs (k:=?_)|refine ps (k:=?_)|((first|refine st hs (k:=?_)|refine stA hs (k:=?_));intro w hs)|((first|refine al hs (k:=?_)|refine bx hs (k:=?_)|refine bs hs (k:=?_));intro b w hz hs)|refine Nx.h ?_|refine qBo ?_|refine qCt ?_|refine qCf ?_|((with_reducible apply xs_guard);exact rfl;exact rfl;intro c hc;(fail_if_success have:true=c:=hc);(fail_if_success have:false=c:=hc);cases c)|(refine xc_if rfl (fun hc=>?_) (fun hc=>?_))|(refine xc_cond rfl (fun hc=>?_) (fun hc=>?_)))
    refine xc_cutN (fun _ : Unit => [(0, .pointer (some ⟨tb, 0, none⟩)), (3, .pointer (some ⟨bq, 0, none⟩)), (28, .bool (!l.red && !r.red))]) (fun _ w => Only [] w1 w) ?_ ?_
    · repeat' (first|refine vs (k:=?_)|refine ps (k:=?_)|((first|refine st hs (k:=?_)|refine stA hs (k:=?_));intro w hs)|((first|refine al hs (k:=?_)|refine bx hs (k:=?_)|refine bs hs (k:=?_));intro b w hz hs)|refine qRg ?_|refine Nx.h ?_|refine qBo ?_|refine qCt ?_|refine qCf ?_|((with_reducible apply xs_guard);exact rfl;exact rfl;intro c hc;(fail_if_success have:true=c:=hc);(fail_if_success have:false=c:=hc);cases c)|(refine xc_if rfl (fun hc=>?_) (fun hc=>?_))|(refine xc_cond rfl (fun hc=>?_) (fun hc=>?_)))
      (with_reducible apply xs_call); exact rfl; exact rfl; exact isRed_ret l pl fl _ (hl1.keep (hs.onlyF [] (by simp [hT1, hb1]) (by simp [D0])) (Nodes.nil _) (by simp))
      rintro v w' ⟨rfl, ho⟩; replace hs := hs.call0 ho
      cases hq : l.red
      · repeat' (first|refine vs (k:=?_)|refine ps (k:=?_)|((first|refine st hs (k:=?_)|refine stA hs (k:=?_));intro w hs)|((first|refine al hs (k:=?_)|refine bx hs (k:=?_)|refine bs hs (k:=?_));intro b w hz hs)|refine qRg ?_|refine Nx.h ?_|refine qBo ?_|refine qCt ?_|refine qCf ?_|((with_reducible apply xs_guard);exact rfl;exact rfl;intro c hc;(fail_if_success have:true=c:=hc);(fail_if_success have:false=c:=hc);cases c)|(refine xc_if rfl (fun hc=>?_) (fun hc=>?_))|(refine xc_cond rfl (fun hc=>?_) (fun hc=>?_)))
        (with_reducible apply xs_call); exact rfl; exact rfl; exact isRed_ret r pr fr _ (hr1.keep (hs.onlyF [] (by simp [hT1, hb1]) (by simp [D0])) (Nodes.nil _) (by simp))
        rintro v w' ⟨rfl, ho⟩; replace hs := hs.call0 ho
        generalize r.red = q2
        repeat' (first|refine vs (k:=?_)|refine ps (k:=?_)|((first|refine st hs (k:=?_)|refine stA hs (k:=?_));intro w hs)|((first|refine al hs (k:=?_)|refine bx hs (k:=?_)|refine bs hs (k:=?_));intro b w hz hs)|refine qRg ?_|refine Nx.h ?_|refine qBo ?_|refine qCt ?_|refine qCf ?_|((with_reducible apply xs_guard);exact rfl;exact rfl;intro c hc;(fail_if_success have:true=c:=hc);(fail_if_success have:false=c:=hc);cases c)|(refine xc_if rfl (fun hc=>?_) (fun hc=>?_))|(refine xc_cond rfl (fun hc=>?_) (fun hc=>?_)))
        exact cutN_normal () (by (repeat (first | exact agree_nil | (apply agree_cons; exact rfl)))) (hs.onlyF [] (by simp [hT1, hb1]) (by simp [D0]))
      · repeat' (first|refine vs (k:=?_)|refine ps (k:=?_)|((first|refine st hs (k:=?_)|refine stA hs (k:=?_));intro w hs)|((first|refine al hs (k:=?_)|refine bx hs (k:=?_)|refine bs hs (k:=?_));intro b w hz hs)|refine qRg ?_|refine Nx.h ?_|refine qBo ?_|refine qCt ?_|refine qCf ?_|((with_reducible apply xs_guard);exact rfl;exact rfl;intro c hc;(fail_if_success have:true=c:=hc);(fail_if_success have:false=c:=hc);cases c)|(refine xc_if rfl (fun hc=>?_) (fun hc=>?_))|(refine xc_cond rfl (fun hc=>?_) (fun hc=>?_)))
        exact cutN_normal () (by (repeat (first | exact agree_nil | (apply agree_cons; exact rfl)))) (hs.onlyF [] (by simp [hT1, hb1]) (by simp [D0]))
    clear hs
    rintro _ env wA hoA
    have hIA : DelI w1 b tb bq y av pl pr ((RB.node l y r c).list.length : Nat) x c wA := ⟨hoA.weaken (by simp), hoA.block hb1 (by simp), hoA.block hT1 (by simp), hoA.block hQ1 (by simp)⟩
    refine xc_cutN (fun _ : Unit => [(0, .pointer (some ⟨tb, 0, none⟩)), (3, .pointer (some ⟨bq, 0, none⟩))]) (fun _ w => DelI w1 b tb bq y av pl pr ((RB.node l y r c).list.length : Nat) x (rootC l r c) w) ?_ ?_
    · unfold rootC
      cases hq : (!l.red && !r.red)
      · repeat' (first|refine vs (k:=?_)|refine ps (k:=?_)|((first|refine st hs (k:=?_)|refine stA hs (k:=?_));intro w hs)|((first|refine al hs (k:=?_)|refine bx hs (k:=?_)|refine bs hs (k:=?_));intro b w hz hs)|refine qRg ?_|refine Nx.h ?_|refine qBo ?_|refine qCt ?_|refine qCf ?_|((with_reducible apply xs_guard);exact rfl;exact rfl;intro c hc;(fail_if_success have:true=c:=hc);(fail_if_success have:false=c:=hc);cases c)|(refine xc_if rfl (fun hc=>?_) (fun hc=>?_))|(refine xc_cond rfl (fun hc=>?_) (fun hc=>?_)))
        exact cutN_normal () (by (repeat (first | exact agree_nil | (apply agree_cons; exact rfl)))) hIA
      · have hs := ((St.nil wA).track hIA.hT (by simp)).track hIA.hb (by simpa using hbt)
        repeat' (first|refine vs (k:=?_)|refine ps (k:=?_)|((first|refine st hs (k:=?_)|refine stA hs (k:=?_));intro w hs)|((first|refine al hs (k:=?_)|refine bx hs (k:=?_)|refine bs hs (k:=?_));intro b w hz hs)|refine qRg ?_|refine Nx.h ?_|refine qBo ?_|refine qCt ?_|refine qCf ?_|((with_reducible apply xs_guard);exact rfl;exact rfl;intro c hc;(fail_if_success have:true=c:=hc);(fail_if_success have:false=c:=hc);cases c)|(refine xc_if rfl (fun hc=>?_) (fun hc=>?_))|(refine xc_cond rfl (fun hc=>?_) (fun hc=>?_)))
        have ho2 := hs.onlyF [b] (by simp [hIA.hT]) (by simp [D0])
        exact cutN_normal () (by (repeat (first | exact agree_nil | (apply agree_cons; exact rfl)))) ⟨hIA.o.step ho2 (fun k hk => .inl hk), hs.get At.head, hs.get (At.tail At.head), ho2.block hIA.hQ (by simpa using blocks_ne hIA.hQ hIA.hb (by decide))⟩
    clear hIA hoA hI1
    rintro _ env wB hI
    have n1 := blocks_ne hI.hQ hI.hb (by decide)
    have n2 := blocks_ne hI.hQ hI.hT (by decide)
    have htr : TreeAt wB (.node l y r (rootC l r c)) (some ⟨b, 0, none⟩) (b :: (fl ++ fr)) := ⟨b, av, pl, pr, fl, fr, rfl, rfl, hI.hb, hav, hl1.keep hI.o hN1 (fun k hk hm => by obtain rfl := List.mem_singleton.1 hm; exact hbn.1 hk), hr1.keep hI.o hN1 (fun k hk hm => by obtain rfl := List.mem_singleton.1 hm; exact hbn.2 hk)⟩
    have oB : Only (b :: (fl ++ fr)) w0 wB := (ho1.weaken (by simp)).step hI.o (fun k hk => .inl (by obtain rfl := List.mem_singleton.1 hk; exact List.mem_cons_self))
    have hs := ((St.nil wB).track hI.hT (by simp)).track hI.hQ (by simpa using n2)
    repeat' (first|refine vs (k:=?_)|refine ps (k:=?_)|((first|refine st hs (k:=?_)|refine stA hs (k:=?_));intro w hs)|((first|refine al hs (k:=?_)|refine bx hs (k:=?_)|refine bs hs (k:=?_));intro b w hz hs)|refine qRg ?_|refine Nx.h ?_|refine qBo ?_|refine qCt ?_|refine qCf ?_|((with_reducible apply xs_guard);exact rfl;exact rfl;intro c hc;(fail_if_success have:true=c:=hc);(fail_if_success have:false=c:=hc);cases c)|(refine xc_if rfl (fun hc=>?_) (fun hc=>?_))|(refine xc_cond rfl (fun hc=>?_) (fun hc=>?_)))
    refine dr [10] hs (k := ?_); intro hX w hs
    refine tk 0 hX (k := ?_)
    refine tk 1 hX (k := ?_)
    refine tk 2 hX (k := ?_)
    refine tk 3 hX (k := ?_)
    refine tk 4 hX (k := ?_)
    refine tk 5 hX (k := ?_)
    refine tk 6 hX (k := ?_)
    refine dt 7 hX (k := ?_)
    have ho2 := hs.onlyF [] (by simp [hI.hT, hI.hQ]) (by simp [D0])
    have htr2 := htr.keep ho2 (Nodes.nil _) (by simp)
    have hTw := hs.get (At.tail At.head)
    have hQw := hs.get At.head
    (with_reducible apply xs_call); exact rfl; exact rfl; exact cut_ret tb _ _ x _ _ t1 _ _ _ hTw htr2 hnd (by simpa [RB.list] using hlen) hd
    rintro v w3 ⟨p', fp', rfl, k1, k2, k3, k4⟩
    have o2 := oB.step ho2 (by simp)
    have k3' := sub_up (fun k hk => .inl hk) k3 o2.size
    have k4' := o2.step k4 (fun k hk => .inl hk)
    have hT3 := head_keep hTw k4 htr2.nodes
    have hQ3 := k4.block hQw (nodes_q htr2.nodes hQw)
    clear hs
    cases t1 with
    | nil =>
      obtain ⟨rfl, rfl⟩ := k1
      have hs := ((St.nil w3).track hT3 (by simp)).track hQ3 (by simpa using n2)
      repeat' (first|refine vs (k:=?_)|refine ps (k:=?_)|((first|refine st hs (k:=?_)|refine stA hs (k:=?_));intro w hs)|((first|refine al hs (k:=?_)|refine bx hs (k:=?_)|refine bs hs (k:=?_));intro b w hz hs)|refine qRg ?_|refine Nx.h ?_|refine qBo ?_|refine qCt ?_|refine qCf ?_|((with_reducible apply xs_guard);exact rfl;exact rfl;intro c hc;(fail_if_success have:true=c:=hc);(fail_if_success have:false=c:=hc);cases c)|(refine xc_if rfl (fun hc=>?_) (fun hc=>?_))|(refine xc_cond rfl (fun hc=>?_) (fun hc=>?_)))
      refine dn (k := ?_)
      refine tk 8 hX (k := ?_)
      refine tk 9 hX (k := ?_)
      refine dt 10 hX (k := ?_)
      repeat' (first|refine vs (k:=?_)|refine ps (k:=?_)|((first|refine st hs (k:=?_)|refine stA hs (k:=?_));intro w hs)|((first|refine al hs (k:=?_)|refine bx hs (k:=?_)|refine bs hs (k:=?_));intro b w hz hs)|refine qRg ?_|refine Nx.h ?_|refine qBo ?_|refine qCt ?_|refine qCf ?_|((with_reducible apply xs_guard);exact rfl;exact rfl;intro c hc;(fail_if_success have:true=c:=hc);(fail_if_success have:false=c:=hc);cases c)|(refine xc_if rfl (fun hc=>?_) (fun hc=>?_))|(refine xc_cond rfl (fun hc=>?_) (fun hc=>?_)))
      refine dn (k := ?_)
      refine en (k := ?_)
      repeat' (first|refine vs (k:=?_)|refine ps (k:=?_)|((first|refine st hs (k:=?_)|refine stA hs (k:=?_));intro w hs)|((first|refine al hs (k:=?_)|refine bx hs (k:=?_)|refine bs hs (k:=?_));intro b w hz hs)|refine qRg ?_|refine Nx.h ?_|refine qBo ?_|refine qCt ?_|refine qCf ?_|((with_reducible apply xs_guard);exact rfl;exact rfl;intro c hc;(fail_if_success have:true=c:=hc);(fail_if_success have:false=c:=hc);cases c)|(refine xc_if rfl (fun hc=>?_) (fun hc=>?_))|(refine xc_cond rfl (fun hc=>?_) (fun hc=>?_)))
      first | refine rt (hq := ?_) | refine rt' (hq := ?_)
      rw [elen] at hs
      have ho4 : Only [tb] w3 _ := hs.onlyF [tb] (by simp [hQ3]) (by simp [D0])
      refine ⟨rfl, [tb], ⟨none, [], rfl, hs.get (At.tail At.head), ⟨rfl, rfl⟩, List.nodup_nil⟩, ?_, ?_⟩
      · exact fun k hk => .inl (by obtain rfl := List.mem_singleton.1 hk; exact List.mem_cons_self)
      · exact (k4'.weaken (fun k hk => List.mem_cons_of_mem _ hk)).step ho4 (fun k hk => .inl (by obtain rfl := List.mem_singleton.1 hk; exact List.mem_cons_self))
    | node l1 y1 r1 c1 =>
      obtain ⟨b', av', pl', pr', fl', fr', rfl, rfl, hb', hav', hl', hr'⟩ := k1
      have hbt' := head_ne hT3 hb'
      have hbq' := blocks_ne hb' hQ3 (by decide)
      have hs := (((St.nil w3).track hT3 (by simp)).track hQ3 (by simpa using n2)).track hb' (by simp [hbt', hbq'])
      repeat' (first|refine vs (k:=?_)|refine ps (k:=?_)|((first|refine st hs (k:=?_)|refine stA hs (k:=?_));intro w hs)|((first|refine al hs (k:=?_)|refine bx hs (k:=?_)|refine bs hs (k:=?_));intro b w hz hs)|refine qRg ?_|refine Nx.h ?_|refine qBo ?_|refine qCt ?_|refine qCf ?_|((with_reducible apply xs_guard);exact rfl;exact rfl;intro c hc;(fail_if_success have:true=c:=hc);(fail_if_success have:false=c:=hc);cases c)|(refine xc_if rfl (fun hc=>?_) (fun hc=>?_))|(refine xc_cond rfl (fun hc=>?_) (fun hc=>?_)))
      refine dn (k := ?_)
      refine tk 8 hX (k := ?_)
      refine tk 9 hX (k := ?_)
      refine dt 10 hX (k := ?_)
      repeat' (first|refine vs (k:=?_)|refine ps (k:=?_)|((first|refine st hs (k:=?_)|refine stA hs (k:=?_));intro w hs)|((first|refine al hs (k:=?_)|refine bx hs (k:=?_)|refine bs hs (k:=?_));intro b w hz hs)|refine qRg ?_|refine Nx.h ?_|refine qBo ?_|refine qCt ?_|refine qCf ?_|((with_reducible apply xs_guard);exact rfl;exact rfl;intro c hc;(fail_if_success have:true=c:=hc);(fail_if_success have:false=c:=hc);cases c)|(refine xc_if rfl (fun hc=>?_) (fun hc=>?_))|(refine xc_cond rfl (fun hc=>?_) (fun hc=>?_)))
      refine dn (k := ?_)
      refine en (k := ?_)
      repeat' (first|refine vs (k:=?_)|refine ps (k:=?_)|((first|refine st hs (k:=?_)|refine stA hs (k:=?_));intro w hs)|((first|refine al hs (k:=?_)|refine bx hs (k:=?_)|refine bs hs (k:=?_));intro b w hz hs)|refine qRg ?_|refine Nx.h ?_|refine qBo ?_|refine qCt ?_|refine qCf ?_|((with_reducible apply xs_guard);exact rfl;exact rfl;intro c hc;(fail_if_success have:true=c:=hc);(fail_if_success have:false=c:=hc);cases c)|(refine xc_if rfl (fun hc=>?_) (fun hc=>?_))|(refine xc_cond rfl (fun hc=>?_) (fun hc=>?_)))
      first | refine rt (hq := ?_) | refine rt' (hq := ?_)
      rw [elen] at hs
      have ho4 : Only [b', tb] w3 _ := hs.onlyF [b', tb] (by simp [hQ3]) (by simp [D0])
      have hbn' : b' ∉ fl' ∧ b' ∉ fr' := by
        simp only [List.nodup_cons, List.mem_append, not_or] at k2
        exact k2.1
      have htn : tb ∉ fl' ∧ tb ∉ fr' := ⟨(fun h => by obtain ⟨_, _, h⟩ := hl'.nodes tb h; rw [hT3] at h; cases h), (fun h => by obtain ⟨_, _, h⟩ := hr'.nodes tb h; rw [hT3] at h; cases h)⟩
      refine ⟨rfl, tb :: (b' :: (fl' ++ fr')), ⟨_, _, rfl, hs.get (At.tail (At.tail At.head)), ⟨b', av', pl', pr', fl', fr', rfl, rfl, hs.get At.head, hav', tree_keep2 hl' ho4 hb' hT3 hbn'.1 htn.1, tree_keep2 hr' ho4 hb' hT3 hbn'.2 htn.2⟩, k2⟩, ?_, ?_⟩
      · intro k hk
        rcases List.mem_cons.1 hk with rfl | hk
        · exact .inl List.mem_cons_self
        · rcases k3' k hk with h | h
          · exact .inl (List.mem_cons_of_mem _ h)
          · exact .inr h
      · refine (k4'.weaken (fun k hk => List.mem_cons_of_mem _ hk)).step ho4 (fun k hk => ?_)
        simp only [List.mem_cons, List.not_mem_nil, or_false] at hk
        rcases hk with rfl | rfl
        · rcases k3' k List.mem_cons_self with h | h
          · exact .inl (List.mem_cons_of_mem _ h)
          · exact .inr h
        · exact .inl List.mem_cons_self
end Go.Proofs.YtegoaabjccignaaGreatDoorX.IB

namespace Go.Proofs.YtegoaabjccignaaGreatDoorX.IB
open Go Go.RowKit
attribute [local irreducible] XS XC XA thenE blockE retE loopE loopS cutB cutN doneE SE
set_option maxHeartbeats 2000000 in
theorem copied_ret : ∀ (t : RB IT) (p : Option Addr) (fp : List Nat) (w0 : World) (h : TreeAt w0 t p fp), Ret Tryz.prog 130 #[.pointer p] w0 fun v w' => (∃ p' fp', v = .pointer p' ∧ TreeAt w' t p' fp' ∧ fp'.Nodup ∧ ∀ k ∈ fp', w0.heap.size ≤ k) ∧ Only [] w0 w'
  | .nil, p, fp, w0, ⟨hp, hf⟩ => by
    subst hp
    have hs := St.nil w0
    refine ret_of_xc Tryz.func130 (by kernel_rfl) rfl Tryz.ntmps130 rfl rfl rfl ?_
    repeat' (first|refine vs (k:=?_)|refine ps (k:=?_)|((first|refine st hs (k:=?_)|refine stA hs (k:=?_));intro w hs)|((first|refine al hs (k:=?_)|refine bx hs (k:=?_)|refine bs hs (k:=?_));intro b w hz hs)|refine qRg ?_|refine Nx.h ?_|refine qBo ?_|refine qCt ?_|refine qCf ?_|((with_reducible apply xs_guard);exact rfl;exact rfl;intro c hc;(fail_if_success have:true=c:=hc);(fail_if_success have:false=c:=hc);cases c)|(refine xc_if rfl (fun hc=>?_) (fun hc=>?_))|(refine xc_cond rfl (fun hc=>?_) (fun hc=>?_)))
    first | refine rt (hq := ?_) | refine rt' (hq := ?_)
    exact ⟨⟨none, [], rfl, ⟨rfl, rfl⟩, List.nodup_nil, fun k h => by cases h⟩, hs.only0 rfl⟩
  | .node l y r c, p, fp, w0, ⟨b, av, pl, pr, fl, fr, hp, hf, hb, hav, hl, hr⟩ => by
    subst hp hf
    have hs := (St.nil w0).track hb (by simp)
    refine ret_of_xc Tryz.func130 (by kernel_rfl) rfl Tryz.ntmps130 rfl rfl rfl ?_
    repeat' (first|refine vs (k:=?_)|refine ps (k:=?_)|((first|refine st hs (k:=?_)|refine stA hs (k:=?_));intro w hs)|((first|refine al hs (k:=?_)|refine bx hs (k:=?_)|refine bs hs (k:=?_));intro b w hz hs)|refine Nx.h ?_|refine qBo ?_|refine qCt ?_|refine qCf ?_|((with_reducible apply xs_guard);exact rfl;exact rfl;intro c hc;(fail_if_success have:true=c:=hc);(fail_if_success have:false=c:=hc);cases c)|(refine xc_if rfl (fun hc=>?_) (fun hc=>?_))|(refine xc_cond rfl (fun hc=>?_) (fun hc=>?_)))
    refine xc_region ?_ ?_; exact rfl
    repeat' (first|refine vs (k:=?_)|refine ps (k:=?_)|((first|refine st hs (k:=?_)|refine stA hs (k:=?_));intro w hs)|((first|refine al hs (k:=?_)|refine bx hs (k:=?_)|refine bs hs (k:=?_));intro b w hz hs)|refine Nx.h ?_|refine qBo ?_|refine qCt ?_|refine qCf ?_|((with_reducible apply xs_guard);exact rfl;exact rfl;intro c hc;(fail_if_success have:true=c:=hc);(fail_if_success have:false=c:=hc);cases c)|(refine xc_if rfl (fun hc=>?_) (fun hc=>?_))|(refine xc_cond rfl (fun hc=>?_) (fun hc=>?_)))
    refine xc_region ?_ ?_; exact rfl
    repeat' (first|refine vs (k:=?_)|refine ps (k:=?_)|((first|refine st hs (k:=?_)|refine stA hs (k:=?_));intro w hs)|((first|refine al hs (k:=?_)|refine bx hs (k:=?_)|refine bs hs (k:=?_));intro b w hz hs)|refine Nx.h ?_|refine qBo ?_|refine qCt ?_|refine qCf ?_|((with_reducible apply xs_guard);exact rfl;exact rfl;intro c hc;(fail_if_success have:true=c:=hc);(fail_if_success have:false=c:=hc);cases c)|(refine xc_if rfl (fun hc=>?_) (fun hc=>?_))|(refine xc_cond rfl (fun hc=>?_) (fun hc=>?_)))
    refine xc_region ?_ ?_; exact rfl
    refine vs (k := ?_)
    refine vs (k := ?_)
    refine vs (k := ?_)
    refine al hs (k := ?_); intro b3 w hz hs
    repeat' (first|refine vs (k:=?_)|refine ps (k:=?_)|((first|refine st hs (k:=?_)|refine stA hs (k:=?_));intro w hs)|((first|refine al hs (k:=?_)|refine bx hs (k:=?_)|refine bs hs (k:=?_));intro b w hz hs)|refine qRg ?_|refine Nx.h ?_|refine qBo ?_|refine qCt ?_|refine qCf ?_|((with_reducible apply xs_guard);exact rfl;exact rfl;intro c hc;(fail_if_success have:true=c:=hc);(fail_if_success have:false=c:=hc);cases c)|(refine xc_if rfl (fun hc=>?_) (fun hc=>?_))|(refine xc_cond rfl (fun hc=>?_) (fun hc=>?_)))
    have hnew := hs.new (b3, true) (by simp) rfl
    refine dr [11, 13] hs (k := ?_); intro hX w hs
    refine tk 0 hX (k := ?_)
    refine tk 1 hX (k := ?_)
    refine tk 2 hX (k := ?_)
    refine tk 3 hX (k := ?_)
    refine tk 5 hX (k := ?_)
    refine tk 6 hX (k := ?_)
    refine tk 7 hX (k := ?_)
    refine tk 8 hX (k := ?_)
    refine dt 4 hX (k := ?_)
    have ho1 := hs.onlyF [] (by simp [hb]) (by simp [D0])
    have hb3 := hs.get At.head
    (with_reducible apply xs_call); exact rfl; exact rfl; exact copied_ret l pl fl _ (hl.keep ho1 (Nodes.nil _) (by simp))
    rintro v w1 ⟨⟨pl', fl', rfl, hl', hnl', hgl'⟩, ho⟩; replace hs := hs.call0 ho
    repeat' (first|refine vs (k:=?_)|refine ps (k:=?_)|((first|refine st hs (k:=?_)|refine stA hs (k:=?_));intro w hs)|((first|refine al hs (k:=?_)|refine bx hs (k:=?_)|refine bs hs (k:=?_));intro b w hz hs)|refine qRg ?_|refine Nx.h ?_|refine qBo ?_|refine qCt ?_|refine qCf ?_|((with_reducible apply xs_guard);exact rfl;exact rfl;intro c hc;(fail_if_success have:true=c:=hc);(fail_if_success have:false=c:=hc);cases c)|(refine xc_if rfl (fun hc=>?_) (fun hc=>?_))|(refine xc_cond rfl (fun hc=>?_) (fun hc=>?_)))
    refine dn (k := ?_)
    refine dt 9 hX (k := ?_)
    have ho2 := hs.onlyF [] (by simp [hb]) (by simp [D0])
    (with_reducible apply xs_call); exact rfl; exact rfl; exact copied_ret r pr fr _ (hr.keep ho2 (Nodes.nil _) (by simp))
    rintro v w2 ⟨⟨pr', fr', rfl, hr', hnr', hgr'⟩, ho'⟩; replace hs := hs.call0 ho'
    have hl2 := hl'.keep ho' (Nodes.nil _) (by simp)
    have ho3 := hs.onlyF [] (by simp [hb]) (by simp [D0])
    have hb4 := hs.get At.head
    have hb5 := hs.get (At.tail At.head)
    have hsz1 := ho1.size
    have hsz := ho.size
    have hsz2 := ho2.size
    have hlt3 := lt_of_block hb3
    have d1 : b3 ∉ fl' := fun h => by have := hgl' b3 h; omega
    have d2 : b3 ∉ fr' := fun h => by have := hgr' b3 h; have := hl'.nodes.lt; omega
    have d3 : ∀ i ∈ fl', ∀ j ∈ fr', i ≠ j := fun i hi j hj e => by
      subst e
      have := hgr' i hj
      have := hl'.nodes.lt i hi
      omega
    have hbb : b3 ≠ b := fun e => by subst e; have := lt_of_block hb; have : w0.heap.size ≤ b3 := hnew; omega
    repeat' (first|refine vs (k:=?_)|refine ps (k:=?_)|((first|refine st hs (k:=?_)|refine stA hs (k:=?_));intro w hs)|((first|refine al hs (k:=?_)|refine bx hs (k:=?_)|refine bs hs (k:=?_));intro b w hz hs)|refine qRg ?_|refine Nx.h ?_|refine qBo ?_|refine qCt ?_|refine qCf ?_|((with_reducible apply xs_guard);exact rfl;exact rfl;intro c hc;(fail_if_success have:true=c:=hc);(fail_if_success have:false=c:=hc);cases c)|(refine xc_if rfl (fun hc=>?_) (fun hc=>?_))|(refine xc_cond rfl (fun hc=>?_) (fun hc=>?_)))
    refine dn (k := ?_)
    refine tk 10 hX (k := ?_)
    clear hs
    have hs := ((St.nil w2).track hb5 (by simp)).track hb4 (by simpa using hbb)
    refine dt 11 hX (k := ?_)
    repeat' (first|refine vs (k:=?_)|refine ps (k:=?_)|((first|refine st hs (k:=?_)|refine stA hs (k:=?_));intro w hs)|((first|refine al hs (k:=?_)|refine bx hs (k:=?_)|refine bs hs (k:=?_));intro b w hz hs)|refine qRg ?_|refine Nx.h ?_|refine qBo ?_|refine qCt ?_|refine qCf ?_|((with_reducible apply xs_guard);exact rfl;exact rfl;intro c hc;(fail_if_success have:true=c:=hc);(fail_if_success have:false=c:=hc);cases c)|(refine xc_if rfl (fun hc=>?_) (fun hc=>?_))|(refine xc_cond rfl (fun hc=>?_) (fun hc=>?_)))
    refine dn (k := ?_)
    refine tk 12 hX (k := ?_)
    refine dt 13 hX (k := ?_)
    repeat' (first|refine vs (k:=?_)|refine ps (k:=?_)|((first|refine st hs (k:=?_)|refine stA hs (k:=?_));intro w hs)|((first|refine al hs (k:=?_)|refine bx hs (k:=?_)|refine bs hs (k:=?_));intro b w hz hs)|refine qRg ?_|refine Nx.h ?_|refine qBo ?_|refine qCt ?_|refine qCf ?_|((with_reducible apply xs_guard);exact rfl;exact rfl;intro c hc;(fail_if_success have:true=c:=hc);(fail_if_success have:false=c:=hc);cases c)|(refine xc_if rfl (fun hc=>?_) (fun hc=>?_))|(refine xc_cond rfl (fun hc=>?_) (fun hc=>?_)))
    refine dn (k := ?_)
    refine en (k := ?_)
    repeat' (first|refine vs (k:=?_)|refine ps (k:=?_)|((first|refine st hs (k:=?_)|refine stA hs (k:=?_));intro w hs)|((first|refine al hs (k:=?_)|refine bx hs (k:=?_)|refine bs hs (k:=?_));intro b w hz hs)|refine qRg ?_|refine Nx.h ?_|refine qBo ?_|refine qCt ?_|refine qCf ?_|((with_reducible apply xs_guard);exact rfl;exact rfl;intro c hc;(fail_if_success have:true=c:=hc);(fail_if_success have:false=c:=hc);cases c)|(refine xc_if rfl (fun hc=>?_) (fun hc=>?_))|(refine xc_cond rfl (fun hc=>?_) (fun hc=>?_)))
    first | refine rt (hq := ?_) | refine rt' (hq := ?_)
    have ho4 : Only [b3] w2 _ := hs.onlyF [b3] (by simp [hb5]) (by simp [D0])
    have hN : Nodes w2 [b3] := Nodes.cons hb4 (Nodes.nil _)
    refine ⟨⟨_, b3 :: (fl' ++ fr'), rfl, ⟨b3, _, pl', pr', fl', fr', rfl, rfl, hs.get At.head, hav, hl2.keep ho4 hN (fun k hk hm => d1 (by obtain rfl := List.mem_singleton.1 hm; exact hk)), hr'.keep ho4 hN (fun k hk hm => d2 (by obtain rfl := List.mem_singleton.1 hm; exact hk))⟩, ?_, ?_⟩, ho3.step ho4 (fun k hk => .inr (by obtain rfl := List.mem_singleton.1 hk; exact hnew))⟩
    · simp only [List.nodup_cons, List.nodup_append, List.mem_append]
      exact ⟨fun h => by rcases h with h | h; exact d1 h; exact d2 h, hnl', hnr', d3⟩
    · intro k hk
      rcases List.mem_cons.1 hk with rfl | hk
      · exact hnew
      · rcases List.mem_append.1 hk with hk | hk
        · have := hgl' k hk; omega
        · have := hgr' k hk; omega
theorem rbClone_ret (tb : Nat) (t : RB IT) (F : List Nat) (w0 : World) (h : Obj6 w0 tb t F) : Ret Tryz.prog 93 #[.pointer (some ⟨tb, 0, none⟩)] w0 fun v w' => (∃ tb' F', v = .pointer (some ⟨tb', 0, none⟩) ∧ Obj6 w' tb' t F' ∧ ∀ k ∈ F', w0.heap.size ≤ k) ∧ Only [] w0 w' := by
  obtain ⟨p, fp, rfl, hT, ht, hnd⟩ := h
  have hs := (St.nil w0).track hT (by simp)
  refine ret_of_xc Tryz.func93 (by kernel_rfl) rfl Tryz.ntmps93 rfl rfl rfl ?_
  repeat' (first|refine vs (k:=?_)|refine ps (k:=?_)|((first|refine st hs (k:=?_)|refine stA hs (k:=?_));intro w hs)|((first|refine al hs (k:=?_)|refine bx hs (k:=?_)|refine bs hs (k:=?_));intro b w hz hs)|refine Nx.h ?_|refine qBo ?_|refine qCt ?_|refine qCf ?_|((with_reducible apply xs_guard);exact rfl;exact rfl;intro c hc;(fail_if_success have:true=c:=hc);(fail_if_success have:false=c:=hc);cases c)|(refine xc_if rfl (fun hc=>?_) (fun hc=>?_))|(refine xc_cond rfl (fun hc=>?_) (fun hc=>?_)))
  refine xc_region ?_ ?_; exact rfl
  repeat' (first|refine vs (k:=?_)|refine ps (k:=?_)|((first|refine st hs (k:=?_)|refine stA hs (k:=?_));intro w hs)|((first|refine al hs (k:=?_)|refine bx hs (k:=?_)|refine bs hs (k:=?_));intro b w hz hs)|refine Nx.h ?_|refine qBo ?_|refine qCt ?_|refine qCf ?_|((with_reducible apply xs_guard);exact rfl;exact rfl;intro c hc;(fail_if_success have:true=c:=hc);(fail_if_success have:false=c:=hc);cases c)|(refine xc_if rfl (fun hc=>?_) (fun hc=>?_))|(refine xc_cond rfl (fun hc=>?_) (fun hc=>?_)))
  refine xc_region ?_ ?_; exact rfl
  repeat' (first|refine vs (k:=?_)|refine ps (k:=?_)|((first|refine st hs (k:=?_)|refine stA hs (k:=?_));intro w hs)|((first|refine al hs (k:=?_)|refine bx hs (k:=?_)|refine bs hs (k:=?_));intro b w hz hs)|refine Nx.h ?_|refine qBo ?_|refine qCt ?_|refine qCf ?_|((with_reducible apply xs_guard);exact rfl;exact rfl;intro c hc;(fail_if_success have:true=c:=hc);(fail_if_success have:false=c:=hc);cases c)|(refine xc_if rfl (fun hc=>?_) (fun hc=>?_))|(refine xc_cond rfl (fun hc=>?_) (fun hc=>?_)))
  refine xc_region ?_ ?_; exact rfl
  refine vs (k := ?_)
  refine vs (k := ?_)
  refine vs (k := ?_)
  refine al hs (k := ?_); intro b3 w hz hs
  repeat' (first|refine vs (k:=?_)|refine ps (k:=?_)|((first|refine st hs (k:=?_)|refine stA hs (k:=?_));intro w hs)|((first|refine al hs (k:=?_)|refine bx hs (k:=?_)|refine bs hs (k:=?_));intro b w hz hs)|refine qRg ?_|refine Nx.h ?_|refine qBo ?_|refine qCt ?_|refine qCf ?_|((with_reducible apply xs_guard);exact rfl;exact rfl;intro c hc;(fail_if_success have:true=c:=hc);(fail_if_success have:false=c:=hc);cases c)|(refine xc_if rfl (fun hc=>?_) (fun hc=>?_))|(refine xc_cond rfl (fun hc=>?_) (fun hc=>?_)))
  have hnew := hs.new (b3, true) (by simp) rfl
  have ho1 := hs.onlyF [] (by simp [hT]) (by simp [D0])
  have hb3 := hs.get At.head
  have hlt3 := lt_of_block hb3
  (with_reducible apply xs_call); exact rfl; exact rfl; exact copied_ret t p fp _ (ht.keep ho1 (Nodes.nil _) (by simp))
  rintro v w1 ⟨⟨p', fp', rfl, ht', hn', hg'⟩, ho⟩; replace hs := hs.call0 ho
  have hb4 := hs.get At.head
  have hT4 := hs.get (At.tail At.head)
  have ho2 := hs.onlyF [] (by simp [hT]) (by simp [D0])
  have hbt : b3 ≠ tb := fun e => by subst e; have := lt_of_block hT; have : w0.heap.size ≤ b3 := hnew; omega
  have d1 : b3 ∉ fp' := fun h => by have := hg' b3 h; omega
  clear hs
  have hs := ((St.nil w1).track hT4 (by simp)).track hb4 (by simpa using hbt)
  repeat' (first|refine vs (k:=?_)|refine ps (k:=?_)|((first|refine st hs (k:=?_)|refine stA hs (k:=?_));intro w hs)|((first|refine al hs (k:=?_)|refine bx hs (k:=?_)|refine bs hs (k:=?_));intro b w hz hs)|refine qRg ?_|refine Nx.h ?_|refine qBo ?_|refine qCt ?_|refine qCf ?_|((with_reducible apply xs_guard);exact rfl;exact rfl;intro c hc;(fail_if_success have:true=c:=hc);(fail_if_success have:false=c:=hc);cases c)|(refine xc_if rfl (fun hc=>?_) (fun hc=>?_))|(refine xc_cond rfl (fun hc=>?_) (fun hc=>?_)))
  first | refine rt (hq := ?_) | refine rt' (hq := ?_)
  have ho4 : Only [b3] w1 _ := hs.onlyF [b3] (by simp [hT4]) (by simp [D0])
  refine ⟨⟨b3, b3 :: fp', rfl, ⟨p', fp', rfl, hs.get At.head, ht'.keepD ho4 (fun k hk hm => d1 (by obtain rfl := List.mem_singleton.1 hm; exact hk)), hn'⟩, fun k hk => ?_⟩, ho2.step ho4 (fun k hk => .inr (by obtain rfl := List.mem_singleton.1 hk; exact hnew))⟩
  · rcases List.mem_cons.1 hk with rfl | hk
    · exact hnew
    · have := hg' k hk
      have := ho1.size
      omega
theorem dclone_ret (tb : Nat) (t : RB IT) (F : List Nat) (w0 : World) (h : Obj6 w0 tb t F) : Ret Tryz.prog 58 #[.agg #[.pointer (some ⟨tb, 0, none⟩)]] w0 fun v w' => (∃ tb' F', v = .agg #[.pointer (some ⟨tb', 0, none⟩)] ∧ Obj6 w' tb' t F' ∧ ∀ k ∈ F', w0.heap.size ≤ k) ∧ Only [] w0 w' := by
  have hs := St.nil w0
  refine ret_of_xc Tryz.func58 (by kernel_rfl) rfl Tryz.ntmps58 rfl rfl rfl ?_
  refine xc_seq ?_
  refine xc_region ?_ ?_; exact rfl
  refine bx hs (k := ?_); intro b1 w hz hs
  refine al hs (k := ?_); intro b2 w hz2 hs
  repeat' (first|refine vs (k:=?_)|refine ps (k:=?_)|((first|refine st hs (k:=?_)|refine stA hs (k:=?_));intro w hs)|((first|refine al hs (k:=?_)|refine bx hs (k:=?_)|refine bs hs (k:=?_));intro b w hz hs)|refine qRg ?_|refine Nx.h ?_|refine qBo ?_|refine qCt ?_|refine qCf ?_|((with_reducible apply xs_guard);exact rfl;exact rfl;intro c hc;(fail_if_success have:true=c:=hc);(fail_if_success have:false=c:=hc);cases c)|(refine xc_if rfl (fun hc=>?_) (fun hc=>?_))|(refine xc_cond rfl (fun hc=>?_) (fun hc=>?_)))
  have ho := hs.only0 rfl
  have n2 := hs.new (b2, true) (by simp) rfl
  simp only at n2
  have hd := hs.nd
  simp only [List.map_cons, List.nodup_cons, List.mem_cons, List.map_nil, List.not_mem_nil, or_false] at hd
  (with_reducible apply xs_call); exact rfl; exact rfl; exact rbClone_ret tb t F _ (h.only ho)
  rintro v w1 ⟨⟨tb', F', rfl, h1, h2⟩, ho'⟩; replace hs := hs.call0 ho'
  have hz := ho.size
  have ho1 := hs.only0 rfl
  have hb1 := hs.get (At.tail At.head)
  have hb2 := hs.get At.head
  clear hs
  have hs := ((St.nil w1).track hb1 (by simp)).track hb2 (by simpa using hd.1)
  repeat' (first|refine vs (k:=?_)|refine ps (k:=?_)|((first|refine st hs (k:=?_)|refine stA hs (k:=?_));intro w hs)|((first|refine al hs (k:=?_)|refine bx hs (k:=?_)|refine bs hs (k:=?_));intro b w hz hs)|refine qRg ?_|refine Nx.h ?_|refine qBo ?_|refine qCt ?_|refine qCf ?_|((with_reducible apply xs_guard);exact rfl;exact rfl;intro c hc;(fail_if_success have:true=c:=hc);(fail_if_success have:false=c:=hc);cases c)|(refine xc_if rfl (fun hc=>?_) (fun hc=>?_))|(refine xc_cond rfl (fun hc=>?_) (fun hc=>?_)))
  first | refine rt (hq := ?_) | refine rt' (hq := ?_)
  have ho2 := hs.onlyF [b2] (by simp [hb1]) (by simp [D0])
  exact ⟨⟨tb', F', rfl, h1.keepD ho2 (fun k hk hm => by obtain rfl := List.mem_singleton.1 hm; exact h1.not hb2 (by decide) (by decide) hk), fun k hk => by have := h2 k hk; omega⟩, ho1.step ho2 (by simp [n2])⟩
end Go.Proofs.YtegoaabjccignaaGreatDoorX.IB

namespace Go.Proofs.YtegoaabjccignaaGreatDoorX
open Go Go.RowKit
section
variable {ops : Array Oper} {QE : Exit → Env → World → Prop} {n : Nat} {rest : List Oper} {env : Env} {w wb : World} {D : Ctx} {H : List Ent} {d : Option Nat} {ty : Nat} {pos : String} {aft : Array Edge} {g : Option (Nat × Bool)}
theorem zero_run {e : Nat} {z : Value} (h : (Tryz.prog.info? e).bind (·.zero) = some z) (w : World) : (zeroValue e).run Tryz.prog w = .ok z w := by
  obtain ⟨i, hi, hz⟩ := Option.bind_eq_some_iff.1 h
  simp [zeroValue, Sem.run_bind, run_typeInfo' hi, hz]
theorem xs_look {t e b c : Nat} {f : Int → Option Value} {x y : Operand} {i : Int} {z : Value} (hM : MapAt w b f c) (hi : In64 i) (hz : (Tryz.prog.info? e).bind (·.zero) = some z) (ht : Tryz.prog.underlying t = some (.map 3 e)) (hw : wantedE ops env g = true := by exact rfl) (hx : ev env x = .map (some b) := by exact rfl) (hy : ev env y = .int .i64 i := by exact rfl)
    (k : XS Tryz.prog ops QE n rest (updO env d (.tuple #[(f i).getD z, .bool (f i).isSome])) w) : XS Tryz.prog ops QE n (⟨d, .lookup t x y true, ty, pos, aft, g⟩ :: rest) env w :=
  xs_val hw (by simp [execOp, hx, hy, Sem.run_bind, hM.look ht (zero_run hz w) hi]) k
theorem xs_look1 {t e b c : Nat} {f : Int → Option Value} {x y : Operand} {i : Int} {z : Value} (hM : MapAt w b f c) (hi : In64 i) (hz : (Tryz.prog.info? e).bind (·.zero) = some z) (ht : Tryz.prog.underlying t = some (.map 3 e)) (hw : wantedE ops env g = true := by exact rfl) (hx : ev env x = .map (some b) := by exact rfl) (hy : ev env y = .int .i64 i := by exact rfl)
    (k : XS Tryz.prog ops QE n rest (updO env d ((f i).getD z)) w) : XS Tryz.prog ops QE n (⟨d, .lookup t x y false, ty, pos, aft, g⟩ :: rest) env w :=
  xs_val hw (by simp [execOp, hx, hy, Sem.run_bind, hM.look1 ht (zero_run hz w) hi]) k
theorem xs_mapPut {t e b c : Nat} {f : Int → Option Value} {x y u : Operand} {i : Int} {v : Value} (hM : MapAt w b f c) (hi : In64 i) (hc : c < maxLen) (ht : Tryz.prog.underlying t = some (.map 3 e)) (hw : wantedE ops env g = true := by exact rfl) (hx : ev env x = .map (some b) := by exact rfl) (hy : ev env y = .int .i64 i := by exact rfl) (hu : ev env u = v := by exact rfl)
    (k : ∀ w', MapAt w' b (updF f i (some v)) (if (f i).isSome then c else c + 1) → Only [b] w w' → XS Tryz.prog ops QE n rest (updO env d undef) w') : XS Tryz.prog ops QE n (⟨d, .mapUpdate t x y u, ty, pos, aft, g⟩ :: rest) env w := by
  obtain ⟨w', hr, h1, h2⟩ := hM.store (v := v) ht hi hc
  exact XS.skipped hw (by simp [execOp, hx, hy, hu, Sem.run_bind, hr]) (k w' h1 h2)
theorem xs_mapDel {t e b c : Nat} {f : Int → Option Value} {x y : Operand} {i : Int} (hM : MapAt w b f c) (hi : In64 i) (ht : Tryz.prog.underlying t = some (.map 3 e)) (hw : wantedE ops env g = true := by exact rfl) (hx : ev env x = .map (some b) := by exact rfl) (hy : ev env y = .int .i64 i := by exact rfl)
    (k : ∀ w', MapAt w' b (updF f i none) (if (f i).isSome then c - 1 else c) → Only [b] w w' → XS Tryz.prog ops QE n rest (updO env d (.tuple #[])) w') : XS Tryz.prog ops QE n (⟨d, .call { callee := .builtin .delete, args := #[x, y], argTypes := #[t, 3] }, ty, pos, aft, g⟩ :: rest) env w := by
  obtain ⟨w', hr, h1, h2⟩ := hM.drop ht hi ty
  exact XS.value hw (v := .tuple #[]) (w' := w') (by simp [execOp, resolve, Sem.run_bind, invoke, builtin, hx, hy, hr]) (k w' h1 h2)
theorem xs_mapNew {t : Nat} (hw : wantedE ops env g = true := by exact rfl)
    (k : ∀ b w', Only [] w w' → MapAt w' b (fun _ => none) 0 → w.heap.size ≤ b → XS Tryz.prog ops QE n rest (updO env d (.map (some b))) w') : XS Tryz.prog ops QE n (⟨d, .makeMap t none, ty, pos, aft, g⟩ :: rest) env w :=
  XS.value hw (v := .map (some w.heap.size)) (w' := w.alloc (.map #[] 0)) (by simp [execOp, Sem.run_bind, run_makeMap]) (k _ _ (((St.nil w).alloc _).only0 rfl) (MapAt.made w) (Nat.le_refl _))
end
end Go.Proofs.YtegoaabjccignaaGreatDoorX

namespace Go.Proofs.YtegoaabjccignaaGreatDoorX
open Go Go.RowKit
attribute [local irreducible] XS XC XA thenE blockE retE loopE loopS cutB cutN doneE SE
structure Mn where
  b : Int
  a : Int
  w : Int
  n : Int
deriving DecidableEq
abbrev Mn.cells (m : Mn) : List Value := [.int .u64 m.b, .int .i64 (m.a / 18446744073709551616), .int .u64 (m.a % 18446744073709551616), .int .u64 m.w, .int .i64 m.n]
def mv (m : Mn) : Value := .agg #[.int .u64 m.b, .int .i64 (m.a / 18446744073709551616), .int .u64 (m.a % 18446744073709551616), .int .u64 m.w, .int .i64 m.n]
def Mn.In (m : Mn) : Prop := U64 m.b ∧ InW m.a ∧ U64 m.w ∧ In64 m.n
instance (m : Mn) : Decidable m.In := by unfold Mn.In; infer_instance
def Mn.zero : Mn := ⟨0, 0, 0, 0⟩
def Mn.right (m : Mn) : Bool := bif decide (m.n = 0) then decide (m.w = 0) && decide (m.a = 0) else decide (0 < m.n) && decide (m.n ≤ 32) && decide (m.n ≤ m.w) && decide (m.w ≤ m.n * 1048576)
theorem eqW0 (x : Int) : (cellEq (.int .i64 (x / 18446744073709551616)) (.int .i64 0) && cellEq (.int .u64 (x % 18446744073709551616)) (.int .u64 0)) = decide (x = 0) := by
  show ((x / 18446744073709551616 == 0) && (x % 18446744073709551616 == 0)) = _
  by_cases h : x = 0
  · subst h; decide
  · rw [decide_eq_false h]
    cases h1 : (x / 18446744073709551616 == 0)
    · rfl
    · cases h2 : (x % 18446744073709551616 == 0)
      · rfl
      · simp only [beq_iff_eq] at h1 h2
        omega
set_option maxHeartbeats 2000000 in
theorem mright_ret (m : Mn) (w0 : World) : Ret Tryz.prog 62 #[mv m] w0 fun v w' => v = .bool m.right ∧ Only [] w0 w' := by
  have hs := St.nil w0
  refine ret_of_xc Tryz.func62 (by kernel_rfl) rfl Tryz.ntmps62 rfl rfl rfl ?_
  repeat' (first|refine vs (k:=?_)|refine ps (k:=?_)|((first|refine st hs (k:=?_)|refine stA hs (k:=?_));intro w hs)|((first|refine al hs (k:=?_)|refine bx hs (k:=?_)|refine bs hs (k:=?_));intro b w hz hs)|refine qRg ?_|refine Nx.h ?_|refine qBo ?_|refine qCt ?_|refine qCf ?_|((with_reducible apply xs_guard);exact rfl;exact rfl;intro c hc;(fail_if_success have:true=c:=hc);(fail_if_success have:false=c:=hc);cases c)|(refine xc_if rfl (fun hc=>?_) (fun hc=>?_))|(refine xc_cond rfl (fun hc=>?_) (fun hc=>?_)))
  all_goals (first | refine rt (hq := ?_) | refine rt' (hq := ?_))
  all_goals refine ⟨?_, hs.only0 rfl⟩
  all_goals clear hs
  all_goals unfold Mn.right packed
  all_goals try rw [eqW0]
  all_goals simp only [wrap_u64] at *
  · rw [decide_eq_true ‹m.n = 0›, cond_true]; simp only [beq_eq_false_iff_ne, ne_eq] at hc; rw [decide_eq_false hc]; rfl
  · rw [decide_eq_true ‹m.n = 0›, cond_true]; simp only [beq_iff_eq] at hc; rw [decide_eq_true hc]; rfl
  · rw [decide_eq_false ‹¬ m.n = 0›, cond_false, hc]; rfl
  · rw [decide_eq_false ‹¬ m.n = 0›, cond_false, ‹decide (0 < m.n) = true›, hc]; rfl
  · have h1 := of_decide_eq_true ‹decide (0 < m.n) = true›
    have h2 := of_decide_eq_true ‹decide (m.n ≤ 32) = true›
    rw [show m.n % 18446744073709551616 = m.n by omega] at hc
    rw [decide_eq_false ‹¬ m.n = 0›, cond_false, ‹decide (0 < m.n) = true›, ‹decide (m.n ≤ 32) = true›, hc]; rfl
  · have h1 := of_decide_eq_true ‹decide (0 < m.n) = true›
    have h2 := of_decide_eq_true ‹decide (m.n ≤ 32) = true›
    rw [show m.n % 18446744073709551616 = m.n by omega] at hc
    rw [decide_eq_false ‹¬ m.n = 0›, cond_false, ‹decide (0 < m.n) = true›, ‹decide (m.n ≤ 32) = true›, hc, show m.n % 18446744073709551616 * 1048576 % 18446744073709551616 = m.n * 1048576 by omega]; rfl
theorem mright_iff {m : Mn} : m.right = true ↔ (m.n = 0 ∧ m.w = 0 ∧ m.a = 0) ∨ (0 < m.n ∧ m.n ≤ 32 ∧ m.n ≤ m.w ∧ m.w ≤ m.n * 1048576) := by
  unfold Mn.right
  by_cases h : m.n = 0
  · rw [decide_eq_true h, cond_true]; simp; omega
  · rw [decide_eq_false h, cond_false]; simp; omega
def mnV (o : Option Mn) : Value := .tuple #[mv (o.getD .zero), .bool o.isSome]
theorem pright_iff {p : Pt} : p.right = true ↔ 1 ≤ p.w ∧ p.w ≤ 1048576 ∧ p.r < p.w := by
  unfold Pt.right; rw [Bool.and_eq_true, mayW_iff, decide_eq_true_eq, and_assoc]
def addM (m : Mn) (p : Pt) : Option Mn := if m.right = true ∧ p.right = true ∧ m.n ≠ 32 ∧ InW (m.a + dist p m.b) then some ⟨m.b, m.a + dist p m.b, m.w + p.w, m.n + 1⟩ else none
theorem addM_in {m : Mn} {p : Pt} {o : Mn} (hm : m.In) (h : addM m p = some o) : o.In := by
  unfold addM at h
  split at h
  · rename_i hc
    cases h
    obtain ⟨h1, h2, h3, h4⟩ := hc
    have h1 := mright_iff.1 h1
    have h2 := pright_iff.1 h2
    refine ⟨hm.1, h4, ?_, ?_⟩
    · show 0 ≤ m.w + p.w ∧ m.w + p.w < 18446744073709551616; omega
    · show -9223372036854775808 ≤ m.n + 1 ∧ m.n + 1 < 9223372036854775808; omega
  · cases h
set_option maxHeartbeats 2000000 in
theorem madd_ret (m : Mn) (p : Pt) (hm : m.In) (hp' : p.In) (w0 : World) : Ret Tryz.prog 88 #[mv m, pv p] w0 fun v w' => v = mnV (addM m p) ∧ Only [] w0 w' := by
  have hs := St.nil w0
  refine ret_of_xc Tryz.func88 (by kernel_rfl) rfl Tryz.ntmps88 rfl rfl rfl ?_
  repeat' (first|refine vs (k:=?_)|refine ps (k:=?_)|((first|refine st hs (k:=?_)|refine stA hs (k:=?_));intro w hs)|((first|refine al hs (k:=?_)|refine bx hs (k:=?_)|refine bs hs (k:=?_));intro b w hz hs)|refine qRg ?_|refine Nx.h ?_|refine qBo ?_|refine qCt ?_|refine qCf ?_|((with_reducible apply xs_guard);exact rfl;exact rfl;intro c hc;(fail_if_success have:true=c:=hc);(fail_if_success have:false=c:=hc);cases c)|(refine xc_if rfl (fun hc=>?_) (fun hc=>?_))|(refine xc_cond rfl (fun hc=>?_) (fun hc=>?_)))
  (with_reducible apply xs_call); exact rfl; exact rfl; exact mright_ret m _
  rintro v w' ⟨rfl, ho⟩; replace hs := hs.call0 ho; repeat' (first|refine vs (k:=?_)|refine ps (k:=?_)|((first|refine st hs (k:=?_)|refine stA hs (k:=?_));intro w hs)|((first|refine al hs (k:=?_)|refine bx hs (k:=?_)|refine bs hs (k:=?_));intro b w hz hs)|refine qRg ?_|refine Nx.h ?_|refine qBo ?_|refine qCt ?_|refine qCf ?_|((with_reducible apply xs_guard);exact rfl;exact rfl;intro c hc;(fail_if_success have:true=c:=hc);(fail_if_success have:false=c:=hc);cases c)|(refine xc_if rfl (fun hc=>?_) (fun hc=>?_))|(refine xc_cond rfl (fun hc=>?_) (fun hc=>?_)))
  · (with_reducible apply xs_call); exact rfl; exact rfl; exact pright_ret p _
    rintro v w' ⟨rfl, ho⟩; replace hs := hs.call0 ho; repeat' (first|refine vs (k:=?_)|refine ps (k:=?_)|((first|refine st hs (k:=?_)|refine stA hs (k:=?_));intro w hs)|((first|refine al hs (k:=?_)|refine bx hs (k:=?_)|refine bs hs (k:=?_));intro b w hz hs)|refine qRg ?_|refine Nx.h ?_|refine qBo ?_|refine qCt ?_|refine qCf ?_|((with_reducible apply xs_guard);exact rfl;exact rfl;intro c hc;(fail_if_success have:true=c:=hc);(fail_if_success have:false=c:=hc);cases c)|(refine xc_if rfl (fun hc=>?_) (fun hc=>?_))|(refine xc_cond rfl (fun hc=>?_) (fun hc=>?_)))
    · first | refine rt (hq := ?_) | refine rt' (hq := ?_)
      refine ⟨?_, hs.only0 rfl⟩
      have : addM m p = none := by unfold addM; rw [if_neg (fun h => h.2.2.1 ‹_›)]
      rw [this]; rfl
    · refine dr [] hs (k := ?_); intro hX w hs
      refine tk 0 hX (k := ?_)
      refine tk 1 hX (k := ?_)
      refine tk 2 hX (k := ?_)
      refine tk 3 hX (k := ?_)
      refine tk 4 hX (k := ?_)
      refine pd0 10 6 hs (k := ?_); intro f X w hp; have hs := hp.st
      apply xa_pend 5 10 (f := f) (X := X) hX hp; exact rfl; exact rfl; (first | (apply makes_alloc tabOk; exact rfl) | (apply makes_slice tabOk; exact rfl; exact rfl; exact rfl; exact rfl; exact rfl; (intro X; ((repeat (first | exact Bld.nil | (apply Bld.one; exact rfl; (conv => lhs; whnf); exact rfl; (repeat (first | exact PutL.nil | apply PutL.skip | apply PutL.cons))) | (apply Bld.agg; exact rfl; exact rfl; exact rfl; (repeat (first | exact PutL.nil | apply PutL.skip | apply PutL.cons))))))))); kernel_rfl; kernel_rfl; kernel_rfl; kernel_rfl; (intro X Y; (repeat (first | exact pgg_base | refine pgg_step ?_ (by exact rfl)))); (intro w' hs; ((first | exact se_hold hs.hold | exact se_hold (hold_sim hs.hold rfl) | exact se_hold (hold_sim hs.hold.tail rfl) | exact se_hold (hR hs rfl) | exact se_hold hs.hold.tail | exact se_hold hs.hold.tail.tail | exact se_hold hs.hold.tail.tail.tail | exact se_done rfl))); intro f X w hp; have hs := hp.st
      (with_reducible apply xs_call); exact rfl; exact rfl; exact dist_ret p m.b hp' _
      rintro v w' ⟨rfl, ho⟩; replace hp := hp.only ho; replace hs := hp.st; repeat' (first|refine vs (k:=?_)|refine ps (k:=?_)|((first|refine st hs (k:=?_)|refine stA hs (k:=?_));intro w hs)|((first|refine al hs (k:=?_)|refine bx hs (k:=?_)|refine bs hs (k:=?_));intro b w hz hs)|refine qRg ?_|refine Nx.h ?_|refine qBo ?_|refine qCt ?_|refine qCf ?_|((with_reducible apply xs_guard);exact rfl;exact rfl;intro c hc;(fail_if_success have:true=c:=hc);(fail_if_success have:false=c:=hc);cases c)|(refine xc_if rfl (fun hc=>?_) (fun hc=>?_))|(refine xc_cond rfl (fun hc=>?_) (fun hc=>?_)))
      refine dn (k := ?_)
      apply xa_pend 6 10 (f := f) (X := X) hX hp; exact rfl; exact rfl; (first | (apply makes_alloc tabOk; exact rfl) | (apply makes_slice tabOk; exact rfl; exact rfl; exact rfl; exact rfl; exact rfl; (intro X; ((repeat (first | exact Bld.nil | (apply Bld.one; exact rfl; (conv => lhs; whnf); exact rfl; (repeat (first | exact PutL.nil | apply PutL.skip | apply PutL.cons))) | (apply Bld.agg; exact rfl; exact rfl; exact rfl; (repeat (first | exact PutL.nil | apply PutL.skip | apply PutL.cons))))))))); kernel_rfl; kernel_rfl; kernel_rfl; kernel_rfl; (intro X Y; (repeat (first | exact pgg_base | refine pgg_step ?_ (by exact rfl)))); (intro w' hs; ((first | exact se_hold hs.hold | exact se_hold (hold_sim hs.hold rfl) | exact se_hold (hold_sim hs.hold.tail rfl) | exact se_hold (hR hs rfl) | exact se_hold hs.hold.tail | exact se_hold hs.hold.tail.tail | exact se_hold hs.hold.tail.tail.tail | exact se_done rfl))); intro f X w hp; have hs := hp.st
      (with_reducible apply xs_call); exact rfl; exact rfl; exact add_t m.a (dist p m.b) hm.2.1 (dist_in hp' _) _
      rintro v w' ⟨rfl, ho⟩; replace hp := hp.only ho; replace hs := hp.st; repeat' (first|refine vs (k:=?_)|refine ps (k:=?_)|((first|refine st hs (k:=?_)|refine stA hs (k:=?_));intro w hs)|((first|refine al hs (k:=?_)|refine bx hs (k:=?_)|refine bs hs (k:=?_));intro b w hz hs)|refine qRg ?_|refine Nx.h ?_|refine qBo ?_|refine qCt ?_|refine qCf ?_|((with_reducible apply xs_guard);exact rfl;exact rfl;intro c hc;(fail_if_success have:true=c:=hc);(fail_if_success have:false=c:=hc);cases c)|(refine xc_if rfl (fun hc=>?_) (fun hc=>?_))|(refine xc_cond rfl (fun hc=>?_) (fun hc=>?_)))
      refine dn (k := ?_)
      refine tk 7 hX (hc := by cases f <;> kernel_rfl) (k := ?_)
      refine tk 8 hX (hc := by cases f <;> kernel_rfl) (k := ?_)
      refine tk 9 hX (hc := by cases f <;> kernel_rfl) (k := ?_)
      apply xa_pendE 10 (f := f) (X := X) hX hp; exact rfl; (first | (apply makes_alloc tabOk; exact rfl) | (apply makes_slice tabOk; exact rfl; exact rfl; exact rfl; exact rfl; exact rfl; (intro X; ((repeat (first | exact Bld.nil | (apply Bld.one; exact rfl; (conv => lhs; whnf); exact rfl; (repeat (first | exact PutL.nil | apply PutL.skip | apply PutL.cons))) | (apply Bld.agg; exact rfl; exact rfl; exact rfl; (repeat (first | exact PutL.nil | apply PutL.skip | apply PutL.cons))))))))); kernel_rfl; kernel_rfl; (intro X Y; (repeat (first | exact pgg_base | refine pgg_step ?_ (by exact rfl)))); (intro w' hs; ((first | exact se_hold hs.hold | exact se_hold (hold_sim hs.hold rfl) | exact se_hold (hold_sim hs.hold.tail rfl) | exact se_hold (hR hs rfl) | exact se_hold hs.hold.tail | exact se_hold hs.hold.tail.tail | exact se_hold hs.hold.tail.tail.tail | exact se_done rfl))); intro b w hI hs
      refine dt 11 hX (k := ?_)
      repeat' (first|refine vs (k:=?_)|refine ps (k:=?_)|((first|refine st hs (k:=?_)|refine stA hs (k:=?_));intro w hs)|((first|refine al hs (k:=?_)|refine bx hs (k:=?_)|refine bs hs (k:=?_));intro b w hz hs)|refine qRg ?_|refine Nx.h ?_|refine qBo ?_|refine qCt ?_|refine qCf ?_|((with_reducible apply xs_guard);exact rfl;exact rfl;intro c hc;(fail_if_success have:true=c:=hc);(fail_if_success have:false=c:=hc);cases c)|(refine xc_if rfl (fun hc=>?_) (fun hc=>?_))|(refine xc_cond rfl (fun hc=>?_) (fun hc=>?_)))
      refine dn (k := ?_)
      refine tk 12 hX (k := ?_)
      refine en (k := ?_)
      repeat' (first|refine vs (k:=?_)|refine ps (k:=?_)|((first|refine st hs (k:=?_)|refine stA hs (k:=?_));intro w hs)|((first|refine al hs (k:=?_)|refine bx hs (k:=?_)|refine bs hs (k:=?_));intro b w hz hs)|refine qRg ?_|refine Nx.h ?_|refine qBo ?_|refine qCt ?_|refine qCf ?_|((with_reducible apply xs_guard);exact rfl;exact rfl;intro c hc;(fail_if_success have:true=c:=hc);(fail_if_success have:false=c:=hc);cases c)|(refine xc_if rfl (fun hc=>?_) (fun hc=>?_))|(refine xc_cond rfl (fun hc=>?_) (fun hc=>?_)))
      · first | refine rt (hq := ?_) | refine rt' (hq := ?_)
        refine ⟨?_, hs.only0 rfl⟩
        have h4 : ¬ InW (m.a + dist p m.b) := by simpa using hc
        have : addM m p = none := by unfold addM; rw [if_neg (fun h => h4 h.2.2.2)]
        rw [this]; rfl
      · first | refine rt (hq := ?_) | refine rt' (hq := ?_)
        refine ⟨?_, hs.only0 rfl⟩
        have h4 : InW (m.a + dist p m.b) := by simpa using hc
        have h1 : m.right = true := by simpa using ‹(!m.right) = false›
        have h2 : p.right = true := by simpa using ‹(!p.right) = false›
        have : addM m p = some ⟨m.b, m.a + dist p m.b, m.w + p.w, m.n + 1⟩ := by unfold addM; rw [if_pos ⟨h1, h2, ‹_›, h4⟩]
        have h5 := mright_iff.1 h1
        have h6 := pright_iff.1 h2
        have e1 : tot (m.a + dist p m.b) = m.a + dist p m.b := if_pos h4
        have e2 : IntKind.u64.wrap (m.w + IntKind.u64.wrap p.w) = m.w + p.w := by simp only [wrap_u64]; omega
        have e3 : IntKind.i64.wrap (m.n + 1) = m.n + 1 := by simp only [wrap_i64]; omega
        rw [this, e1, e2, e3]; rfl
    · first | refine rt (hq := ?_) | refine rt' (hq := ?_)
      refine ⟨?_, hs.only0 rfl⟩
      have h2 : p.right = false := by simpa using hc
      have : addM m p = none := by unfold addM; rw [if_neg (fun h => by rw [h2] at h; cases h.2.1)]
      rw [this]; rfl
  · first | refine rt (hq := ?_) | refine rt' (hq := ?_)
    refine ⟨?_, hs.only0 rfl⟩
    have h2 : m.right = false := by simpa using hc
    have : addM m p = none := by unfold addM; rw [if_neg (fun h => by rw [h2] at h; cases h.1)]
    rw [this]; rfl
end Go.Proofs.YtegoaabjccignaaGreatDoorX

namespace Go.Proofs.YtegoaabjccignaaGreatDoorX
open Go Go.RowKit
attribute [local irreducible] XS XC XA thenE blockE retE loopE loopS cutB cutN doneE SE
def lessM (m : Mn) (p : Pt) : Mn := ⟨m.b, m.a - dist p m.b, m.w - p.w, m.n - 1⟩
def takM (m : Mn) (p : Pt) : Option Mn := if m.right = true ∧ p.right = true ∧ m.n ≠ 0 ∧ p.w ≤ m.w ∧ InW (m.a - dist p m.b) ∧ (lessM m p).right = true then some (lessM m p) else none
theorem takM_in {m : Mn} {p : Pt} {o : Mn} (hm : m.In) (h : takM m p = some o) : o.In := by
  unfold takM at h
  split at h
  · rename_i hc
    cases h
    obtain ⟨h1, h2, h3, h4, h5, h6⟩ := hc
    have h1 := mright_iff.1 h1
    have h2 := pright_iff.1 h2
    refine ⟨hm.1, h5, ?_, ?_⟩
    · show 0 ≤ m.w - p.w ∧ m.w - p.w < 18446744073709551616; omega
    · show -9223372036854775808 ≤ m.n - 1 ∧ m.n - 1 < 9223372036854775808; omega
  · cases h
set_option maxHeartbeats 4000000 in
theorem mtake_ret (m : Mn) (p : Pt) (hm : m.In) (hp' : p.In) (w0 : World) : Ret Tryz.prog 74 #[mv m, pv p] w0 fun v w' => v = mnV (takM m p) ∧ Only [] w0 w' := by
  have hs := St.nil w0
  refine ret_of_xc Tryz.func74 (by kernel_rfl) rfl Tryz.ntmps74 rfl rfl rfl ?_
  repeat' (first|refine vs (k:=?_)|refine ps (k:=?_)|((first|refine st hs (k:=?_)|refine stA hs (k:=?_));intro w hs)|((first|refine al hs (k:=?_)|refine bx hs (k:=?_)|refine bs hs (k:=?_));intro b w hz hs)|refine qRg ?_|refine Nx.h ?_|refine qBo ?_|refine qCt ?_|refine qCf ?_|((with_reducible apply xs_guard);exact rfl;exact rfl;intro c hc;(fail_if_success have:true=c:=hc);(fail_if_success have:false=c:=hc);cases c)|(refine xc_if rfl (fun hc=>?_) (fun hc=>?_))|(refine xc_cond rfl (fun hc=>?_) (fun hc=>?_)))
  (with_reducible apply xs_call); exact rfl; exact rfl; exact mright_ret m _
  rintro v w' ⟨rfl, ho⟩; replace hs := hs.call0 ho; repeat' (first|refine vs (k:=?_)|refine ps (k:=?_)|((first|refine st hs (k:=?_)|refine stA hs (k:=?_));intro w hs)|((first|refine al hs (k:=?_)|refine bx hs (k:=?_)|refine bs hs (k:=?_));intro b w hz hs)|refine qRg ?_|refine Nx.h ?_|refine qBo ?_|refine qCt ?_|refine qCf ?_|((with_reducible apply xs_guard);exact rfl;exact rfl;intro c hc;(fail_if_success have:true=c:=hc);(fail_if_success have:false=c:=hc);cases c)|(refine xc_if rfl (fun hc=>?_) (fun hc=>?_))|(refine xc_cond rfl (fun hc=>?_) (fun hc=>?_)))
  · (with_reducible apply xs_call); exact rfl; exact rfl; exact pright_ret p _
    rintro v w' ⟨rfl, ho⟩; replace hs := hs.call0 ho; repeat' (first|refine vs (k:=?_)|refine ps (k:=?_)|((first|refine st hs (k:=?_)|refine stA hs (k:=?_));intro w hs)|((first|refine al hs (k:=?_)|refine bx hs (k:=?_)|refine bs hs (k:=?_));intro b w hz hs)|refine qRg ?_|refine Nx.h ?_|refine qBo ?_|refine qCt ?_|refine qCf ?_|((with_reducible apply xs_guard);exact rfl;exact rfl;intro c hc;(fail_if_success have:true=c:=hc);(fail_if_success have:false=c:=hc);cases c)|(refine xc_if rfl (fun hc=>?_) (fun hc=>?_))|(refine xc_cond rfl (fun hc=>?_) (fun hc=>?_)))
    · simp only [wrap_u64] at hc
      have hU := hp'.2.2
      unfold U32 at hU
      first | refine rt (hq := ?_) | refine rt' (hq := ?_)
      refine ⟨?_, hs.only0 rfl⟩
      have : takM m p = none := by unfold takM; rw [if_neg (fun h => by have := h.2.2.2.1; omega)]
      rw [this]; rfl
    · have h1 : m.right = true := by simpa using ‹(!m.right) = false›
      have h2 : p.right = true := by simpa using ‹(!p.right) = false›
      have h3 : m.n ≠ 0 := by simpa using ‹(m.n == 0) = false›
      have hU := hp'.2.2
      have e0 := u64_of32 hU
      have hc' : p.w ≤ m.w := by rw [e0] at hc; omega
      have h5 := mright_iff.1 h1
      have h6 := pright_iff.1 h2
      refine dr [] hs (k := ?_); intro hX w hs
      refine tk 0 hX (k := ?_)
      refine tk 1 hX (k := ?_)
      refine tk 2 hX (k := ?_)
      refine tk 3 hX (k := ?_)
      refine tk 4 hX (k := ?_)
      refine pd0 10 6 hs (k := ?_); intro f X w hp; have hs := hp.st
      apply xa_pend 5 10 (f := f) (X := X) hX hp; exact rfl; exact rfl; (first | (apply makes_alloc tabOk; exact rfl) | (apply makes_slice tabOk; exact rfl; exact rfl; exact rfl; exact rfl; exact rfl; (intro X; ((repeat (first | exact Bld.nil | (apply Bld.one; exact rfl; (conv => lhs; whnf); exact rfl; (repeat (first | exact PutL.nil | apply PutL.skip | apply PutL.cons))) | (apply Bld.agg; exact rfl; exact rfl; exact rfl; (repeat (first | exact PutL.nil | apply PutL.skip | apply PutL.cons))))))))); kernel_rfl; kernel_rfl; kernel_rfl; kernel_rfl; (intro X Y; (repeat (first | exact pgg_base | refine pgg_step ?_ (by exact rfl)))); (intro w' hs; ((first | exact se_hold hs.hold | exact se_hold (hold_sim hs.hold rfl) | exact se_hold (hold_sim hs.hold.tail rfl) | exact se_hold (hR hs rfl) | exact se_hold hs.hold.tail | exact se_hold hs.hold.tail.tail | exact se_hold hs.hold.tail.tail.tail | exact se_done rfl))); intro f X w hp; have hs := hp.st
      (with_reducible apply xs_call); exact rfl; exact rfl; exact dist_ret p m.b hp' _
      rintro v w' ⟨rfl, ho⟩; replace hp := hp.only ho; replace hs := hp.st; repeat' (first|refine vs (k:=?_)|refine ps (k:=?_)|((first|refine st hs (k:=?_)|refine stA hs (k:=?_));intro w hs)|((first|refine al hs (k:=?_)|refine bx hs (k:=?_)|refine bs hs (k:=?_));intro b w hz hs)|refine qRg ?_|refine Nx.h ?_|refine qBo ?_|refine qCt ?_|refine qCf ?_|((with_reducible apply xs_guard);exact rfl;exact rfl;intro c hc;(fail_if_success have:true=c:=hc);(fail_if_success have:false=c:=hc);cases c)|(refine xc_if rfl (fun hc=>?_) (fun hc=>?_))|(refine xc_cond rfl (fun hc=>?_) (fun hc=>?_)))
      refine dn (k := ?_)
      apply xa_pend 6 10 (f := f) (X := X) hX hp; exact rfl; exact rfl; (first | (apply makes_alloc tabOk; exact rfl) | (apply makes_slice tabOk; exact rfl; exact rfl; exact rfl; exact rfl; exact rfl; (intro X; ((repeat (first | exact Bld.nil | (apply Bld.one; exact rfl; (conv => lhs; whnf); exact rfl; (repeat (first | exact PutL.nil | apply PutL.skip | apply PutL.cons))) | (apply Bld.agg; exact rfl; exact rfl; exact rfl; (repeat (first | exact PutL.nil | apply PutL.skip | apply PutL.cons))))))))); kernel_rfl; kernel_rfl; kernel_rfl; kernel_rfl; (intro X Y; (repeat (first | exact pgg_base | refine pgg_step ?_ (by exact rfl)))); (intro w' hs; ((first | exact se_hold hs.hold | exact se_hold (hold_sim hs.hold rfl) | exact se_hold (hold_sim hs.hold.tail rfl) | exact se_hold (hR hs rfl) | exact se_hold hs.hold.tail | exact se_hold hs.hold.tail.tail | exact se_hold hs.hold.tail.tail.tail | exact se_done rfl))); intro f X w hp; have hs := hp.st
      (with_reducible apply xs_call); exact rfl; exact rfl; exact sub_t m.a (dist p m.b) hm.2.1 (dist_in hp' _) _
      rintro v w' ⟨rfl, ho⟩; replace hp := hp.only ho; replace hs := hp.st; repeat' (first|refine vs (k:=?_)|refine ps (k:=?_)|((first|refine st hs (k:=?_)|refine stA hs (k:=?_));intro w hs)|((first|refine al hs (k:=?_)|refine bx hs (k:=?_)|refine bs hs (k:=?_));intro b w hz hs)|refine qRg ?_|refine Nx.h ?_|refine qBo ?_|refine qCt ?_|refine qCf ?_|((with_reducible apply xs_guard);exact rfl;exact rfl;intro c hc;(fail_if_success have:true=c:=hc);(fail_if_success have:false=c:=hc);cases c)|(refine xc_if rfl (fun hc=>?_) (fun hc=>?_))|(refine xc_cond rfl (fun hc=>?_) (fun hc=>?_)))
      refine dn (k := ?_)
      refine tk 7 hX (hc := by cases f <;> kernel_rfl) (k := ?_)
      refine tk 8 hX (hc := by cases f <;> kernel_rfl) (k := ?_)
      refine tk 9 hX (hc := by cases f <;> kernel_rfl) (k := ?_)
      apply xa_pendE 10 (f := f) (X := X) hX hp; exact rfl; (first | (apply makes_alloc tabOk; exact rfl) | (apply makes_slice tabOk; exact rfl; exact rfl; exact rfl; exact rfl; exact rfl; (intro X; ((repeat (first | exact Bld.nil | (apply Bld.one; exact rfl; (conv => lhs; whnf); exact rfl; (repeat (first | exact PutL.nil | apply PutL.skip | apply PutL.cons))) | (apply Bld.agg; exact rfl; exact rfl; exact rfl; (repeat (first | exact PutL.nil | apply PutL.skip | apply PutL.cons))))))))); kernel_rfl; kernel_rfl; (intro X Y; (repeat (first | exact pgg_base | refine pgg_step ?_ (by exact rfl)))); (intro w' hs; ((first | exact se_hold hs.hold | exact se_hold (hold_sim hs.hold rfl) | exact se_hold (hold_sim hs.hold.tail rfl) | exact se_hold (hR hs rfl) | exact se_hold hs.hold.tail | exact se_hold hs.hold.tail.tail | exact se_hold hs.hold.tail.tail.tail | exact se_done rfl))); intro b w hI hs
      refine dt 11 hX (k := ?_)
      repeat' (first|refine vs (k:=?_)|refine ps (k:=?_)|((first|refine st hs (k:=?_)|refine stA hs (k:=?_));intro w hs)|((first|refine al hs (k:=?_)|refine bx hs (k:=?_)|refine bs hs (k:=?_));intro b w hz hs)|refine qRg ?_|refine Nx.h ?_|refine qBo ?_|refine qCt ?_|refine qCf ?_|((with_reducible apply xs_guard);exact rfl;exact rfl;intro c hc;(fail_if_success have:true=c:=hc);(fail_if_success have:false=c:=hc);cases c)|(refine xc_if rfl (fun hc=>?_) (fun hc=>?_))|(refine xc_cond rfl (fun hc=>?_) (fun hc=>?_)))
      refine dn (k := ?_)
      refine tk 12 hX (k := ?_)
      refine en (k := ?_)
      repeat' (first|refine vs (k:=?_)|refine ps (k:=?_)|((first|refine st hs (k:=?_)|refine stA hs (k:=?_));intro w hs)|((first|refine al hs (k:=?_)|refine bx hs (k:=?_)|refine bs hs (k:=?_));intro b w hz hs)|refine qRg ?_|refine Nx.h ?_|refine qBo ?_|refine qCt ?_|refine qCf ?_|((with_reducible apply xs_guard);exact rfl;exact rfl;intro c hc;(fail_if_success have:true=c:=hc);(fail_if_success have:false=c:=hc);cases c)|(refine xc_if rfl (fun hc=>?_) (fun hc=>?_))|(refine xc_cond rfl (fun hc=>?_) (fun hc=>?_)))
      · have h4 : InW (m.a - dist p m.b) := by simpa using hc
        have e1 : tot (m.a - dist p m.b) = m.a - dist p m.b := if_pos h4
        have e2 : IntKind.u64.wrap (m.w - IntKind.u64.wrap p.w) = m.w - p.w := by simp only [wrap_u64]; omega
        have e3 : IntKind.i64.wrap (m.n - 1) = m.n - 1 := by simp only [wrap_i64]; omega
        (with_reducible apply xs_call); exact rfl; exact rfl; exact mright_ret ⟨m.b, tot (m.a - dist p m.b), IntKind.u64.wrap (m.w - IntKind.u64.wrap p.w), IntKind.i64.wrap (m.n - 1)⟩ _
        rw [show (⟨m.b, tot (m.a - dist p m.b), IntKind.u64.wrap (m.w - IntKind.u64.wrap p.w), IntKind.i64.wrap (m.n - 1)⟩ : Mn) = lessM m p by rw [e1, e2, e3]; rfl]
        rintro v w' ⟨rfl, ho⟩; replace hs := hs.call0 ho; repeat' (first|refine vs (k:=?_)|refine ps (k:=?_)|((first|refine st hs (k:=?_)|refine stA hs (k:=?_));intro w hs)|((first|refine al hs (k:=?_)|refine bx hs (k:=?_)|refine bs hs (k:=?_));intro b w hz hs)|refine qRg ?_|refine Nx.h ?_|refine qBo ?_|refine qCt ?_|refine qCf ?_|((with_reducible apply xs_guard);exact rfl;exact rfl;intro c hc;(fail_if_success have:true=c:=hc);(fail_if_success have:false=c:=hc);cases c)|(refine xc_if rfl (fun hc=>?_) (fun hc=>?_))|(refine xc_cond rfl (fun hc=>?_) (fun hc=>?_)))
        · first | refine rt (hq := ?_) | refine rt' (hq := ?_)
          refine ⟨?_, hs.only0 rfl⟩
          have h7 : (lessM m p).right = false := by simpa using hc
          have : takM m p = none := by unfold takM; rw [if_neg (fun h => by rw [h7] at h; cases h.2.2.2.2.2)]
          rw [this]; rfl
        · first | refine rt (hq := ?_) | refine rt' (hq := ?_)
          refine ⟨?_, hs.only0 rfl⟩
          have h7 : (lessM m p).right = true := by simpa using hc
          have : takM m p = some (lessM m p) := by unfold takM; rw [if_pos ⟨h1, h2, h3, hc', h4, h7⟩]
          rw [this, e1, e2, e3]; rfl
      · first | refine rt (hq := ?_) | refine rt' (hq := ?_)
        refine ⟨?_, hs.only0 rfl⟩
        have h4 : ¬ InW (m.a - dist p m.b) := by simpa using hc
        have : takM m p = none := by unfold takM; rw [if_neg (fun h => h4 h.2.2.2.2.1)]
        rw [this]; rfl
    · first | refine rt (hq := ?_) | refine rt' (hq := ?_)
      refine ⟨?_, hs.only0 rfl⟩
      have : takM m p = none := by unfold takM; rw [if_neg (fun h => h.2.2.1 (by simpa using hc))]
      rw [this]; rfl
    · first | refine rt (hq := ?_) | refine rt' (hq := ?_)
      refine ⟨?_, hs.only0 rfl⟩
      have : takM m p = none := by unfold takM; rw [if_neg (fun h => absurd h.2.1 (by simpa using hc))]
      rw [this]; rfl
  · first | refine rt (hq := ?_) | refine rt' (hq := ?_)
    refine ⟨?_, hs.only0 rfl⟩
    have h2 : m.right = false := by simpa using hc
    have : takM m p = none := by unfold takM; rw [if_neg (fun h => by rw [h2] at h; cases h.1)]
    rw [this]; rfl
def rebM (m : Mn) (t : Int) : Option Mn := if m.right = true ∧ InW (m.a - m.w * sn t m.b) then some ⟨t, m.a - m.w * sn t m.b, m.w, m.n⟩ else none
theorem rebM_in {m : Mn} {t : Int} {o : Mn} (hm : m.In) (ht : U64 t) (h : rebM m t = some o) : o.In := by
  unfold rebM at h
  split at h
  · rename_i hc
    cases h
    exact ⟨ht, hc.2, hm.2.2⟩
  · cases h
set_option maxHeartbeats 4000000 in
theorem rebase_ret (m : Mn) (t : Int) (hm : m.In) (w0 : World) : Ret Tryz.prog 109 #[mv m, .int .u64 t] w0 fun v w' => v = mnV (rebM m t) ∧ Only [] w0 w' := by
  have hs := St.nil w0
  refine ret_of_xc Tryz.func109 (by kernel_rfl) rfl Tryz.ntmps109 rfl rfl rfl ?_
  repeat' (first|refine vs (k:=?_)|refine ps (k:=?_)|((first|refine st hs (k:=?_)|refine stA hs (k:=?_));intro w hs)|((first|refine al hs (k:=?_)|refine bx hs (k:=?_)|refine bs hs (k:=?_));intro b w hz hs)|refine qRg ?_|refine Nx.h ?_|refine qBo ?_|refine qCt ?_|refine qCf ?_|((with_reducible apply xs_guard);exact rfl;exact rfl;intro c hc;(fail_if_success have:true=c:=hc);(fail_if_success have:false=c:=hc);cases c)|(refine xc_if rfl (fun hc=>?_) (fun hc=>?_))|(refine xc_cond rfl (fun hc=>?_) (fun hc=>?_)))
  (with_reducible apply xs_call); exact rfl; exact rfl; exact mright_ret m _
  rintro v w' ⟨rfl, ho⟩; replace hs := hs.call0 ho; repeat' (first|refine vs (k:=?_)|refine ps (k:=?_)|((first|refine st hs (k:=?_)|refine stA hs (k:=?_));intro w hs)|((first|refine al hs (k:=?_)|refine bx hs (k:=?_)|refine bs hs (k:=?_));intro b w hz hs)|refine qRg ?_|refine Nx.h ?_|refine qBo ?_|refine qCt ?_|refine qCf ?_|((with_reducible apply xs_guard);exact rfl;exact rfl;intro c hc;(fail_if_success have:true=c:=hc);(fail_if_success have:false=c:=hc);cases c)|(refine xc_if rfl (fun hc=>?_) (fun hc=>?_))|(refine xc_cond rfl (fun hc=>?_) (fun hc=>?_)))
  · first | refine rt (hq := ?_) | refine rt' (hq := ?_)
    refine ⟨?_, hs.only0 rfl⟩
    have h2 : m.right = false := by simpa using hc
    have : rebM m t = none := by unfold rebM; rw [if_neg (fun h => by rw [h2] at h; cases h.1)]
    rw [this]; rfl
  · have h1 : m.right = true := by simpa using hc
    have h5 := mright_iff.1 h1
    have h6 := sn_rng t m.b
    have h7 := mul_rng (w := m.w) (s := sn t m.b) (W := 33554432) (S := 9223372036854775808) hm.2.2.1.1 (by omega) (by omega) (by omega)
    have hU := hm.2.2.1
    refine dr [] hs (k := ?_); intro hX w hs
    refine tk 0 hX (k := ?_)
    refine tk 1 hX (k := ?_)
    refine tk 3 hX (k := ?_)
    refine tk 4 hX (k := ?_)
    refine tk 5 hX (k := ?_)
    refine pd0 11 6 hs (k := ?_); intro f X w hp; have hs := hp.st
    apply xa_pend 2 11 (f := f) (X := X) hX hp; exact rfl; exact rfl; (first | (apply makes_alloc tabOk; exact rfl) | (apply makes_slice tabOk; exact rfl; exact rfl; exact rfl; exact rfl; exact rfl; (intro X; ((repeat (first | exact Bld.nil | (apply Bld.one; exact rfl; (conv => lhs; whnf); exact rfl; (repeat (first | exact PutL.nil | apply PutL.skip | apply PutL.cons))) | (apply Bld.agg; exact rfl; exact rfl; exact rfl; (repeat (first | exact PutL.nil | apply PutL.skip | apply PutL.cons))))))))); kernel_rfl; kernel_rfl; kernel_rfl; kernel_rfl; (intro X Y; (repeat (first | exact pgg_base | refine pgg_step ?_ (by exact rfl)))); (intro w' hs; ((first | exact se_hold hs.hold | exact se_hold (hold_sim hs.hold rfl) | exact se_hold (hold_sim hs.hold.tail rfl) | exact se_hold (hR hs rfl) | exact se_hold hs.hold.tail | exact se_hold hs.hold.tail.tail | exact se_hold hs.hold.tail.tail.tail | exact se_done rfl))); intro f X w hp; have hs := hp.st
    (with_reducible apply xs_call); exact rfl; exact rfl; exact ofU_ret m.w hU.1 hU.2 _
    rintro v w' ⟨rfl, ho⟩; replace hp := hp.only ho; replace hs := hp.st; repeat' (first|refine vs (k:=?_)|refine ps (k:=?_)|((first|refine st hs (k:=?_)|refine stA hs (k:=?_));intro w hs)|((first|refine al hs (k:=?_)|refine bx hs (k:=?_)|refine bs hs (k:=?_));intro b w hz hs)|refine qRg ?_|refine Nx.h ?_|refine qBo ?_|refine qCt ?_|refine qCf ?_|((with_reducible apply xs_guard);exact rfl;exact rfl;intro c hc;(fail_if_success have:true=c:=hc);(fail_if_success have:false=c:=hc);cases c)|(refine xc_if rfl (fun hc=>?_) (fun hc=>?_))|(refine xc_cond rfl (fun hc=>?_) (fun hc=>?_)))
    refine dn (k := ?_)
    apply xa_pend 6 11 (f := f) (X := X) hX hp; exact rfl; exact rfl; (first | (apply makes_alloc tabOk; exact rfl) | (apply makes_slice tabOk; exact rfl; exact rfl; exact rfl; exact rfl; exact rfl; (intro X; ((repeat (first | exact Bld.nil | (apply Bld.one; exact rfl; (conv => lhs; whnf); exact rfl; (repeat (first | exact PutL.nil | apply PutL.skip | apply PutL.cons))) | (apply Bld.agg; exact rfl; exact rfl; exact rfl; (repeat (first | exact PutL.nil | apply PutL.skip | apply PutL.cons))))))))); kernel_rfl; kernel_rfl; kernel_rfl; kernel_rfl; (intro X Y; (repeat (first | exact pgg_base | refine pgg_step ?_ (by exact rfl)))); (intro w' hs; ((first | exact se_hold hs.hold | exact se_hold (hold_sim hs.hold rfl) | exact se_hold (hold_sim hs.hold.tail rfl) | exact se_hold (hR hs rfl) | exact se_hold hs.hold.tail | exact se_hold hs.hold.tail.tail | exact se_hold hs.hold.tail.tail.tail | exact se_done rfl))); intro f X w hp; have hs := hp.st
    (with_reducible apply xs_call); exact rfl; exact rfl; exact since_ret t m.b _
    rintro v w' ⟨rfl, ho⟩; replace hp := hp.only ho; replace hs := hp.st; repeat' (first|refine vs (k:=?_)|refine ps (k:=?_)|((first|refine st hs (k:=?_)|refine stA hs (k:=?_));intro w hs)|((first|refine al hs (k:=?_)|refine bx hs (k:=?_)|refine bs hs (k:=?_));intro b w hz hs)|refine qRg ?_|refine Nx.h ?_|refine qBo ?_|refine qCt ?_|refine qCf ?_|((with_reducible apply xs_guard);exact rfl;exact rfl;intro c hc;(fail_if_success have:true=c:=hc);(fail_if_success have:false=c:=hc);cases c)|(refine xc_if rfl (fun hc=>?_) (fun hc=>?_))|(refine xc_cond rfl (fun hc=>?_) (fun hc=>?_)))
    refine dn (k := ?_)
    apply xa_pend 7 11 (f := f) (X := X) hX hp; exact rfl; exact rfl; (first | (apply makes_alloc tabOk; exact rfl) | (apply makes_slice tabOk; exact rfl; exact rfl; exact rfl; exact rfl; exact rfl; (intro X; ((repeat (first | exact Bld.nil | (apply Bld.one; exact rfl; (conv => lhs; whnf); exact rfl; (repeat (first | exact PutL.nil | apply PutL.skip | apply PutL.cons))) | (apply Bld.agg; exact rfl; exact rfl; exact rfl; (repeat (first | exact PutL.nil | apply PutL.skip | apply PutL.cons))))))))); kernel_rfl; kernel_rfl; kernel_rfl; kernel_rfl; (intro X Y; (repeat (first | exact pgg_base | refine pgg_step ?_ (by exact rfl)))); (intro w' hs; ((first | exact se_hold hs.hold | exact se_hold (hold_sim hs.hold rfl) | exact se_hold (hold_sim hs.hold.tail rfl) | exact se_hold (hR hs rfl) | exact se_hold hs.hold.tail | exact se_hold hs.hold.tail.tail | exact se_hold hs.hold.tail.tail.tail | exact se_done rfl))); intro f X w hp; have hs := hp.st
    (with_reducible apply xs_call); exact rfl; exact rfl; exact mul_ok m.w (sn t m.b) (by unfold InW; omega) (by omega) (by omega) (by unfold InW; omega) _
    rintro v w' ⟨rfl, ho⟩; replace hp := hp.only ho; replace hs := hp.st; repeat' (first|refine vs (k:=?_)|refine ps (k:=?_)|((first|refine st hs (k:=?_)|refine stA hs (k:=?_));intro w hs)|((first|refine al hs (k:=?_)|refine bx hs (k:=?_)|refine bs hs (k:=?_));intro b w hz hs)|refine qRg ?_|refine Nx.h ?_|refine qBo ?_|refine qCt ?_|refine qCf ?_|((with_reducible apply xs_guard);exact rfl;exact rfl;intro c hc;(fail_if_success have:true=c:=hc);(fail_if_success have:false=c:=hc);cases c)|(refine xc_if rfl (fun hc=>?_) (fun hc=>?_))|(refine xc_cond rfl (fun hc=>?_) (fun hc=>?_)))
    refine dn (k := ?_)
    refine tk 8 hX (hc := by cases f <;> kernel_rfl) (k := ?_)
    refine tk 9 hX (hc := by cases f <;> kernel_rfl) (k := ?_)
    refine tk 10 hX (hc := by cases f <;> kernel_rfl) (k := ?_)
    apply xa_pendE 11 (f := f) (X := X) hX hp; exact rfl; (first | (apply makes_alloc tabOk; exact rfl) | (apply makes_slice tabOk; exact rfl; exact rfl; exact rfl; exact rfl; exact rfl; (intro X; ((repeat (first | exact Bld.nil | (apply Bld.one; exact rfl; (conv => lhs; whnf); exact rfl; (repeat (first | exact PutL.nil | apply PutL.skip | apply PutL.cons))) | (apply Bld.agg; exact rfl; exact rfl; exact rfl; (repeat (first | exact PutL.nil | apply PutL.skip | apply PutL.cons))))))))); kernel_rfl; kernel_rfl; (intro X Y; (repeat (first | exact pgg_base | refine pgg_step ?_ (by exact rfl)))); (intro w' hs; ((first | exact se_hold hs.hold | exact se_hold (hold_sim hs.hold rfl) | exact se_hold (hold_sim hs.hold.tail rfl) | exact se_hold (hR hs rfl) | exact se_hold hs.hold.tail | exact se_hold hs.hold.tail.tail | exact se_hold hs.hold.tail.tail.tail | exact se_done rfl))); intro b w hI hs
    refine dt 12 hX (k := ?_)
    repeat' (first|refine vs (k:=?_)|refine ps (k:=?_)|((first|refine st hs (k:=?_)|refine stA hs (k:=?_));intro w hs)|((first|refine al hs (k:=?_)|refine bx hs (k:=?_)|refine bs hs (k:=?_));intro b w hz hs)|refine qRg ?_|refine Nx.h ?_|refine qBo ?_|refine qCt ?_|refine qCf ?_|((with_reducible apply xs_guard);exact rfl;exact rfl;intro c hc;(fail_if_success have:true=c:=hc);(fail_if_success have:false=c:=hc);cases c)|(refine xc_if rfl (fun hc=>?_) (fun hc=>?_))|(refine xc_cond rfl (fun hc=>?_) (fun hc=>?_)))
    refine dn (k := ?_)
    refine tk 13 hX (k := ?_)
    refine en (k := ?_)
    repeat' (first|refine vs (k:=?_)|refine ps (k:=?_)|((first|refine st hs (k:=?_)|refine stA hs (k:=?_));intro w hs)|((first|refine al hs (k:=?_)|refine bx hs (k:=?_)|refine bs hs (k:=?_));intro b w hz hs)|refine qRg ?_|refine Nx.h ?_|refine qBo ?_|refine qCt ?_|refine qCf ?_|((with_reducible apply xs_guard);exact rfl;exact rfl;intro c hc;(fail_if_success have:true=c:=hc);(fail_if_success have:false=c:=hc);cases c)|(refine xc_if rfl (fun hc=>?_) (fun hc=>?_))|(refine xc_cond rfl (fun hc=>?_) (fun hc=>?_)))
    (with_reducible apply xs_call); exact rfl; exact rfl; exact sub_t m.a (m.w * sn t m.b) hm.2.1 (by unfold InW; omega) _
    rintro v w' ⟨rfl, ho⟩; replace hs := hs.call0 ho; repeat' (first|refine vs (k:=?_)|refine ps (k:=?_)|((first|refine st hs (k:=?_)|refine stA hs (k:=?_));intro w hs)|((first|refine al hs (k:=?_)|refine bx hs (k:=?_)|refine bs hs (k:=?_));intro b w hz hs)|refine qRg ?_|refine Nx.h ?_|refine qBo ?_|refine qCt ?_|refine qCf ?_|((with_reducible apply xs_guard);exact rfl;exact rfl;intro c hc;(fail_if_success have:true=c:=hc);(fail_if_success have:false=c:=hc);cases c)|(refine xc_if rfl (fun hc=>?_) (fun hc=>?_))|(refine xc_cond rfl (fun hc=>?_) (fun hc=>?_)))
    · first | refine rt (hq := ?_) | refine rt' (hq := ?_)
      refine ⟨?_, hs.only0 rfl⟩
      have h4 : ¬ InW (m.a - m.w * sn t m.b) := by simpa using hc
      have : rebM m t = none := by unfold rebM; rw [if_neg (fun h => h4 h.2)]
      rw [this]; rfl
    · first | refine rt (hq := ?_) | refine rt' (hq := ?_)
      refine ⟨?_, hs.only0 rfl⟩
      have h4 : InW (m.a - m.w * sn t m.b) := by simpa using hc
      have : rebM m t = some ⟨t, m.a - m.w * sn t m.b, m.w, m.n⟩ := by unfold rebM; rw [if_pos ⟨h1, h4⟩]
      have e1 : tot (m.a - m.w * sn t m.b) = m.a - m.w * sn t m.b := if_pos h4
      rw [this, e1]; rfl
def flM (m : Mn) : Option Int := if m.right = true ∧ m.n ≠ 0 ∧ In64 (m.a / m.w) then some (lat m.b (m.a / m.w)) else none
def tmV (o : Option Int) : Value := .tuple #[.int .u64 (o.getD 0), .bool o.isSome]
set_option maxHeartbeats 2000000 in
theorem floor_ret (m : Mn) (hm : m.In) (w0 : World) : Ret Tryz.prog 37 #[mv m] w0 fun v w' => v = tmV (flM m) ∧ Only [] w0 w' := by
  have hs := St.nil w0
  refine ret_of_xc Tryz.func37 (by kernel_rfl) rfl Tryz.ntmps37 rfl rfl rfl ?_
  repeat' (first|refine vs (k:=?_)|refine ps (k:=?_)|((first|refine st hs (k:=?_)|refine stA hs (k:=?_));intro w hs)|((first|refine al hs (k:=?_)|refine bx hs (k:=?_)|refine bs hs (k:=?_));intro b w hz hs)|refine qRg ?_|refine Nx.h ?_|refine qBo ?_|refine qCt ?_|refine qCf ?_|((with_reducible apply xs_guard);exact rfl;exact rfl;intro c hc;(fail_if_success have:true=c:=hc);(fail_if_success have:false=c:=hc);cases c)|(refine xc_if rfl (fun hc=>?_) (fun hc=>?_))|(refine xc_cond rfl (fun hc=>?_) (fun hc=>?_)))
  (with_reducible apply xs_call); exact rfl; exact rfl; exact mright_ret m _
  rintro v w' ⟨rfl, ho⟩; replace hs := hs.call0 ho; repeat' (first|refine vs (k:=?_)|refine ps (k:=?_)|((first|refine st hs (k:=?_)|refine stA hs (k:=?_));intro w hs)|((first|refine al hs (k:=?_)|refine bx hs (k:=?_)|refine bs hs (k:=?_));intro b w hz hs)|refine qRg ?_|refine Nx.h ?_|refine qBo ?_|refine qCt ?_|refine qCf ?_|((with_reducible apply xs_guard);exact rfl;exact rfl;intro c hc;(fail_if_success have:true=c:=hc);(fail_if_success have:false=c:=hc);cases c)|(refine xc_if rfl (fun hc=>?_) (fun hc=>?_))|(refine xc_cond rfl (fun hc=>?_) (fun hc=>?_)))
  · first | refine rt (hq := ?_) | refine rt' (hq := ?_)
    refine ⟨?_, hs.only0 rfl⟩
    have : flM m = none := by unfold flM; rw [if_neg (fun h => h.2.1 ‹_›)]
    rw [this]; rfl
  · have h1 : m.right = true := by simpa using ‹(!m.right) = false›
    have h5 := mright_iff.1 h1
    have hU := hm.2.2.1
    (with_reducible apply xs_call); exact rfl; exact rfl; exact div_ok m.a m.w hm.2.1 (by omega) hU.2 _
    rintro v w' ⟨rfl, ho⟩; replace hs := hs.call0 ho; repeat' (first|refine vs (k:=?_)|refine ps (k:=?_)|((first|refine st hs (k:=?_)|refine stA hs (k:=?_));intro w hs)|((first|refine al hs (k:=?_)|refine bx hs (k:=?_)|refine bs hs (k:=?_));intro b w hz hs)|refine qRg ?_|refine Nx.h ?_|refine qBo ?_|refine qCt ?_|refine qCf ?_|((with_reducible apply xs_guard);exact rfl;exact rfl;intro c hc;(fail_if_success have:true=c:=hc);(fail_if_success have:false=c:=hc);cases c)|(refine xc_if rfl (fun hc=>?_) (fun hc=>?_))|(refine xc_cond rfl (fun hc=>?_) (fun hc=>?_)))
    (with_reducible apply xs_call); exact rfl; exact rfl; exact small_t (m.a / m.w) (div_in hm.2.1 (by omega)) _
    rintro v w' ⟨rfl, ho⟩; replace hs := hs.call0 ho; repeat' (first|refine vs (k:=?_)|refine ps (k:=?_)|((first|refine st hs (k:=?_)|refine stA hs (k:=?_));intro w hs)|((first|refine al hs (k:=?_)|refine bx hs (k:=?_)|refine bs hs (k:=?_));intro b w hz hs)|refine qRg ?_|refine Nx.h ?_|refine qBo ?_|refine qCt ?_|refine qCf ?_|((with_reducible apply xs_guard);exact rfl;exact rfl;intro c hc;(fail_if_success have:true=c:=hc);(fail_if_success have:false=c:=hc);cases c)|(refine xc_if rfl (fun hc=>?_) (fun hc=>?_))|(refine xc_cond rfl (fun hc=>?_) (fun hc=>?_)))
    · first | refine rt (hq := ?_) | refine rt' (hq := ?_)
      refine ⟨?_, hs.only0 rfl⟩
      have h4 : ¬ In64 (m.a / m.w) := by simpa using hc
      have : flM m = none := by unfold flM; rw [if_neg (fun h => h4 h.2.2)]
      rw [this]; rfl
    · have h4 : In64 (m.a / m.w) := by simpa using hc
      (with_reducible apply xs_call); exact rfl; exact rfl; exact vadd_ret m.b (sml (m.a / m.w)) _
      rintro v w' ⟨rfl, ho⟩; replace hs := hs.call0 ho; repeat' (first|refine vs (k:=?_)|refine ps (k:=?_)|((first|refine st hs (k:=?_)|refine stA hs (k:=?_));intro w hs)|((first|refine al hs (k:=?_)|refine bx hs (k:=?_)|refine bs hs (k:=?_));intro b w hz hs)|refine qRg ?_|refine Nx.h ?_|refine qBo ?_|refine qCt ?_|refine qCf ?_|((with_reducible apply xs_guard);exact rfl;exact rfl;intro c hc;(fail_if_success have:true=c:=hc);(fail_if_success have:false=c:=hc);cases c)|(refine xc_if rfl (fun hc=>?_) (fun hc=>?_))|(refine xc_cond rfl (fun hc=>?_) (fun hc=>?_)))
      first | refine rt (hq := ?_) | refine rt' (hq := ?_)
      refine ⟨?_, hs.only0 rfl⟩
      have : flM m = some (lat m.b (m.a / m.w)) := by unfold flM; rw [if_pos ⟨h1, ‹_›, h4⟩]
      have e1 : sml (m.a / m.w) = m.a / m.w := if_pos h4
      rw [this, e1]; rfl
  · first | refine rt (hq := ?_) | refine rt' (hq := ?_)
    refine ⟨?_, hs.only0 rfl⟩
    have h2 : m.right = false := by simpa using hc
    have : flM m = none := by unfold flM; rw [if_neg (fun h => by rw [h2] at h; cases h.1)]
    rw [this]; rfl
theorem inW0 : InW 0 := by decide
theorem u640 : U64 0 := by decide
theorem in640 : In64 0 := by decide
def ofL : Mn → List Pt → Option Mn
  | m, [] => some m
  | m, p :: ps => (addM m p).bind fun m => ofL m ps
def ofM (base : Int) (ps : List Pt) : Option Mn := ofL ⟨base, 0, 0, 0⟩ ps
theorem ofL_snoc : ∀ (l : List Pt) (m : Mn) (p : Pt), ofL m (l ++ [p]) = (ofL m l).bind fun m => addM m p
  | [], m, p => by
    simp only [List.nil_append, ofL, Option.bind_some]
    cases addM m p <;> rfl
  | q :: l, m, p => by
    simp only [List.cons_append, ofL]
    cases addM m q with
    | none => rfl
    | some m' => exact ofL_snoc l m' p
theorem ofL_none : ∀ (l r : List Pt) (m : Mn), ofL m l = none → ofL m (l ++ r) = none
  | [], r, m, h => by simp [ofL] at h
  | q :: l, r, m, h => by
    simp only [List.cons_append, ofL] at h ⊢
    cases h1 : addM m q with
    | none => rfl
    | some m' => rw [h1] at h; exact ofL_none l r m' h
set_option maxHeartbeats 4000000 in
theorem of_mean_ret (base : Int) (ps : List Pt) (sl : Value) (hbase : U64 base) (hps : ∀ p ∈ ps, p.In) (hlen : ps.length ≤ 9223372036854775807) (w0 : World) (hP : PsAt w0 sl ps) :
    Ret Tryz.prog 89 #[.int .u64 base, sl] w0 fun v w' => v = mnV (ofM base ps) ∧ Only [] w0 w' := by
  obtain ⟨ad, cap, rfl, hD⟩ := hP
  rw [List.length_map] at *
  have hs := St.nil w0
  refine ret_of_xc Tryz.func89 (by kernel_rfl) rfl Tryz.ntmps89 rfl rfl rfl ?_
  refine xc_seq ?_
  refine xc_region ?_ ?_; exact rfl
  refine al hs (k := ?_); intro b4 w hz hs
  repeat' (first|refine vs (k:=?_)|refine ps (k:=?_)|((first|refine st hs (k:=?_)|refine stA hs (k:=?_));intro w hs)|((first|refine al hs (k:=?_)|refine bx hs (k:=?_)|refine bs hs (k:=?_));intro b w hz hs)|refine Nx.h ?_|refine qBo ?_|refine qCt ?_|refine qCf ?_|((with_reducible apply xs_guard);exact rfl;exact rfl;intro c hc;(fail_if_success have:true=c:=hc);(fail_if_success have:false=c:=hc);cases c)|(refine xc_if rfl (fun hc=>?_) (fun hc=>?_))|(refine xc_cond rfl (fun hc=>?_) (fun hc=>?_)))
  refine xc_region ?_ ?_; exact rfl
  refine vs (k := ?_)
  refine vs (k := ?_)
  refine al hs (k := ?_); intro b6 w hz hs
  repeat' (first|refine vs (k:=?_)|refine ps (k:=?_)|((first|refine st hs (k:=?_)|refine stA hs (k:=?_));intro w hs)|((first|refine al hs (k:=?_)|refine bx hs (k:=?_)|refine bs hs (k:=?_));intro b w hz hs)|refine qRg ?_|refine Nx.h ?_|refine qBo ?_|refine qCt ?_|refine qCf ?_|((with_reducible apply xs_guard);exact rfl;exact rfl;intro c hc;(fail_if_success have:true=c:=hc);(fail_if_success have:false=c:=hc);cases c)|(refine xc_if rfl (fun hc=>?_) (fun hc=>?_))|(refine xc_cond rfl (fun hc=>?_) (fun hc=>?_)))
  refine xc_cutB (fun (_ : Mn) => [(4, .pointer (some ⟨b4, 0, none⟩)), (6, .pointer (some ⟨b6, 0, none⟩))]) (fun m w => ofM base ps = some m ∧ St w0 D0 [(b6, .cells m.cells.toArray 77, true), (b4, .cells Mn.zero.cells.toArray 77, true)] w) ?_ ?_
  · refine xc_loopS (fun (s : Nat × Mn) => [(4, .pointer (some ⟨b4, 0, none⟩)), (6, .pointer (some ⟨b6, 0, none⟩)), (13, .slice ad ps.length cap), (14, .int .i64 (ps.length : Nat)), (15, .int .i64 (s.1 : Nat))])
      (fun s w => s.1 ≤ ps.length ∧ ofM base (ps.take s.1) = some s.2 ∧ s.2.In ∧ St w0 D0 [(b6, .cells s.2.cells.toArray 77, true), (b4, .cells Mn.zero.cells.toArray 77, true)] w)
      (fun s => ps.length - s.1) (0, ⟨base, 0, 0, 0⟩) (by (repeat (first | exact agree_nil | (apply agree_cons; exact rfl)))) ⟨Nat.zero_le _, rfl, ⟨hbase, inW0, u640, in640⟩, hs⟩ fun s env w ⟨hi, ho, hin, hs⟩ => ?_
    obtain ⟨i, m⟩ := s
    simp only at hi ho hin
    repeat' (first|refine vs (k:=?_)|refine ps (k:=?_)|((first|refine st hs (k:=?_)|refine stA hs (k:=?_));intro w hs)|((first|refine al hs (k:=?_)|refine bx hs (k:=?_)|refine bs hs (k:=?_));intro b w hz hs)|refine qRg ?_|refine Nx.h ?_|refine qBo ?_|refine qCt ?_|refine qCf ?_|((with_reducible apply xs_guard);exact rfl;exact rfl;intro c hc;(fail_if_success have:true=c:=hc);(fail_if_success have:false=c:=hc);cases c)|(refine xc_if rfl (fun hc=>?_) (fun hc=>?_))|(refine xc_cond rfl (fun hc=>?_) (fun hc=>?_)))
    · have hlt : i < ps.length := by omega
      obtain ⟨b, off, cs, fz, rfl, _, hb, hcs⟩ := hD (fun h => by have := congrArg List.length h; rw [List.length_map, List.length_nil] at this; omega)
      have hpk := hcs i (Pt.cells ps[i]) (by rw [List.getElem?_map, List.getElem?_eq_getElem hlt]; rfl)
      have hpin := hps ps[i] (List.getElem_mem hlt)
      have ei := nx64 hlt hlen
      have hsn : ofM base (ps.take (i + 1)) = addM m ps[i] := by rw [take_next hlt]; unfold ofM at ho ⊢; rw [ofL_snoc, ho]; rfl
      have hno : addM m ps[i] = none → ofM base ps = none := fun h => by
        have := ofL_none (ps.take (i + 1)) (ps.drop (i + 1)) ⟨base, 0, 0, 0⟩ (by rw [show ofL ⟨base, 0, 0, 0⟩ (ps.take (i + 1)) = ofM base (ps.take (i + 1)) from rfl, hsn, h])
        rwa [List.take_append_drop] at this
      generalize ps[i] = p at *
      refine ix (h0 := (by omega)) (h1 := (by omega)) (k := ?_)
      refine lhK ((hs.only0 rfl).block hb (by simp)) hpk (k := ?_)
      refine al hs (k := ?_); intro b8 w hz hs
      repeat' (first|refine vs (k:=?_)|refine ps (k:=?_)|((first|refine st hs (k:=?_)|refine stA hs (k:=?_));intro w hs)|((first|refine al hs (k:=?_)|refine bx hs (k:=?_)|refine bs hs (k:=?_));intro b w hz hs)|refine qRg ?_|refine Nx.h ?_|refine qBo ?_|refine qCt ?_|refine qCf ?_|((with_reducible apply xs_guard);exact rfl;exact rfl;intro c hc;(fail_if_success have:true=c:=hc);(fail_if_success have:false=c:=hc);cases c)|(refine xc_if rfl (fun hc=>?_) (fun hc=>?_))|(refine xc_cond rfl (fun hc=>?_) (fun hc=>?_)))
      (with_reducible apply xs_call); exact rfl; exact rfl; exact madd_ret m p hin hpin _
      cases ha : addM m p with
      | none =>
        rintro v w' ⟨rfl, ho⟩; replace hs := hs.call0 ho; repeat' (first|refine vs (k:=?_)|refine ps (k:=?_)|((first|refine st hs (k:=?_)|refine stA hs (k:=?_));intro w hs)|((first|refine al hs (k:=?_)|refine bx hs (k:=?_)|refine bs hs (k:=?_));intro b w hz hs)|refine qRg ?_|refine Nx.h ?_|refine qBo ?_|refine qCt ?_|refine qCf ?_|((with_reducible apply xs_guard);exact rfl;exact rfl;intro c hc;(fail_if_success have:true=c:=hc);(fail_if_success have:false=c:=hc);cases c)|(refine xc_if rfl (fun hc=>?_) (fun hc=>?_))|(refine xc_cond rfl (fun hc=>?_) (fun hc=>?_)))
        first | refine rt (hq := ?_) | refine rt' (hq := ?_)
        refine ⟨?_, hs.only0 rfl⟩
        rw [hno ha]; rfl
      | some m' =>
        rintro v w' ⟨rfl, ho⟩; replace hs := hs.call0 ho; repeat' (first|refine vs (k:=?_)|refine ps (k:=?_)|((first|refine st hs (k:=?_)|refine stA hs (k:=?_));intro w hs)|((first|refine al hs (k:=?_)|refine bx hs (k:=?_)|refine bs hs (k:=?_));intro b w hz hs)|refine qRg ?_|refine Nx.h ?_|refine qBo ?_|refine qCt ?_|refine qCf ?_|((with_reducible apply xs_guard);exact rfl;exact rfl;intro c hc;(fail_if_success have:true=c:=hc);(fail_if_success have:false=c:=hc);cases c)|(refine xc_if rfl (fun hc=>?_) (fun hc=>?_))|(refine xc_cond rfl (fun hc=>?_) (fun hc=>?_)))
        rw [ha] at hsn
        exact loopS_next (i + 1, m') (by show ps.length - (i + 1) < ps.length - i; omega) (by (repeat (first | exact agree_nil | (apply agree_cons; first | exact rfl | exact congrArg (Value.int .i64) ei)))) ⟨by show i + 1 ≤ ps.length; omega, hsn, addM_in hin ha, hs.forgetNew.forgetNew⟩
    · have hc' : ¬ ((i : Int) < ps.length) := hc
      have e : i = ps.length := by omega
      rw [e, List.take_length] at ho
      exact cutB_exit m (by (repeat (first | exact agree_nil | (apply agree_cons; exact rfl)))) ⟨ho, hs⟩
  · rintro m env w ⟨ho, hs⟩
    repeat' (first|refine vs (k:=?_)|refine ps (k:=?_)|((first|refine st hs (k:=?_)|refine stA hs (k:=?_));intro w hs)|((first|refine al hs (k:=?_)|refine bx hs (k:=?_)|refine bs hs (k:=?_));intro b w hz hs)|refine qRg ?_|refine Nx.h ?_|refine qBo ?_|refine qCt ?_|refine qCf ?_|((with_reducible apply xs_guard);exact rfl;exact rfl;intro c hc;(fail_if_success have:true=c:=hc);(fail_if_success have:false=c:=hc);cases c)|(refine xc_if rfl (fun hc=>?_) (fun hc=>?_))|(refine xc_cond rfl (fun hc=>?_) (fun hc=>?_)))
    first | refine rt (hq := ?_) | refine rt' (hq := ?_)
    refine ⟨?_, hs.only0 rfl⟩
    rw [ho]; rfl
end Go.Proofs.YtegoaabjccignaaGreatDoorX
