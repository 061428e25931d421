/- A part of the proof: what its functions compute. -/
import Derived.Test.YtegoaabjccignaaGreatDoorM7
set_option linter.unusedVariables false
set_option linter.unusedSimpArgs false
set_option maxRecDepth 100000
namespace Go.Proofs.YtegoaabjccignaaGreatDoorX.IB
open Go Go.RowKit
attribute [local irreducible] XS XC XA thenE blockE retE loopE loopS cutB cutN doneE SE
abbrev itqO (a : It) : Obj := .cells #[.int .u64 a.p.t, .int .u32 a.p.r, .int .u32 a.p.w, .int .i64 a.id, .int .u64 a.d.t, .int .u32 a.d.r, .int .u32 a.d.w] 34 (0, 0)
theorem nodes_q {w : World} {F : List Nat} (h : Nodes w F) {bq : Nat} {a : It} (hQ : w.heap[bq]? = some (itqO a)) : bq ∉ F := fun hm => by
  obtain ⟨cs, fz, h1⟩ := h bq hm
  exact blocks_ne hQ h1 (by decide) rfl
structure HasQ (bq : Nat) (a : It) (w0 : World) (tb : Nat) (p0 : Option Addr) (n0 : Int) (fp : List Nat) (t : RB IT) (p : Option Addr) (w : World) : Prop where
  base : Has w0 tb p0 n0 fp t p w
  q : w.heap[bq]? = some (itqO a)
theorem HasQ.only {bq : Nat} {a : It} {w0 w w' : World} {tb : Nat} {p0 : Option Addr} {n0 : Int} {fp : List Nat} {t : RB IT} {p : Option Addr} (h : HasQ bq a w0 tb p0 n0 fp t p w) (ho : Only [] w w') : HasQ bq a w0 tb p0 n0 fp t p w' := ⟨h.base.only ho, ho.block h.q (by simp)⟩
theorem HasQ.next {bq : Nat} {a : It} {w0 w w' : World} {tb : Nat} {p0 : Option Addr} {n0 : Int} {fp fp1 : List Nat} {t t' : RB IT} {p : Option Addr} {v : Value} (h1 : TreeAt w t p fp1) (h2 : ∀ k ∈ fp1, k ∈ fp ∨ w0.heap.size ≤ k) (h3 : Only fp w0 w) (h4 : w.heap[tb]? = some (treeO p0 n0)) (hQ : w.heap[bq]? = some (itqO a)) (k : Turned w fp1 t' v w') :
    ∃ p', v = .pointer p' ∧ HasQ bq a w0 tb p0 n0 fp t' p' w' := by
  obtain ⟨p', e, h⟩ := Has.next h1 h2 h3 h4 k
  obtain ⟨_, _, _, _, _, _, ko⟩ := k
  exact ⟨p', e, h, ko.block hQ (nodes_q h1.nodes hQ)⟩
theorem cut_len (x : IT) : ∀ (k : Nat) (t t' : RB IT), RB.cut ltT x k t = some t' → t'.list.length ≤ t.list.length
  | 0, t, t', h => by cases h
  | k + 1, .nil, t', h => by cases h
  | k + 1, .node l y r c, t', h => by
    rw [RB.cut] at h
    cases hxy : ltT x y
    · rw [hxy, cond_false] at h
      have hu : (bif l.red then RB.toRight (.node l y r c) else .node l y r c : RB IT).list = (RB.node l y r c).list := by
        cases l.red
        · rfl
        · exact RB.list_toRight _
      generalize (bif l.red then RB.toRight (.node l y r c) else .node l y r c : RB IT) = u at h hu
      cases h2 : u.right.isNil
      · rw [h2, cond_false] at h
        cases hd : RB.downR u with
        | none => rw [hd] at h; cases h
        | some d =>
          rw [hd] at h
          have hdl := downR_list hd
          cases d with
          | nil => cases h
          | node l2 y2 r2 c2 =>
            simp only at h
            rw [← hu, ← hdl]
            cases h3 : ltT y2 x
            · rw [h3, cond_false] at h
              cases hm : RB.least r2 with
              | none => rw [hm] at h; cases h
              | some m =>
                rw [hm] at h
                obtain ⟨r', hr', rfl⟩ := Option.map_eq_some_iff.1 h
                have := cutMin_len k r2 r' hr'
                rw [RB.list_mend]
                simp only [RB.list, List.length_append, List.length_cons]
                omega
            · rw [h3, cond_true] at h
              obtain ⟨r', hr', rfl⟩ := Option.map_eq_some_iff.1 h
              have := cut_len x k r2 r' hr'
              rw [RB.list_mend]
              simp only [RB.list, List.length_append, List.length_cons]
              omega
      · rw [h2, cond_true] at h; cases h; simp [RB.list]
    · rw [hxy, cond_true] at h
      cases h2 : l.isNil
      · rw [h2, cond_false] at h
        cases hd : RB.downL (.node l y r c) with
        | none => rw [hd] at h; cases h
        | some d =>
          rw [hd] at h
          have hdl := downL_list hd
          cases d with
          | nil => cases h
          | node l2 y2 r2 c2 =>
            obtain ⟨l', hl', rfl⟩ := Option.map_eq_some_iff.1 h
            have := cut_len x k l2 l' hl'
            rw [RB.list_mend, ← hdl]
            simp only [RB.list, List.length_append, List.length_cons]
            omega
      · rw [h2, cond_true] at h; cases h
set_option maxHeartbeats 4000000 in
theorem cut_ret (tb : Nat) (p0 : Option Addr) (n0 : Int) (x : IT) : ∀ (k : Nat) (t t' : RB IT) (p : Option Addr) (fp : List Nat) (w0 : World) (hT : w0.heap[tb]? = some (treeO p0 n0)) (h : TreeAt w0 t p fp) (hnd : fp.Nodup) (hlen : t.list.length ≤ 1000000) (hc : RB.cut ltT x k t = some t'),
    Ret Tryz.prog 108 #[.pointer (some ⟨tb, 0, none⟩), .pointer p, iv x.1] w0 fun v w' => Turned w0 fp t' v w'
  | 0, t, t', p, fp, w0, hT, h, hnd, hlen, hc => by cases hc
  | k + 1, .nil, t', p, fp, w0, hT, h, hnd, hlen, hc => by cases hc
  | k + 1, .node l y r c, t', p, fp, w0, hT, h, hnd, hlen, hc => by
    rw [RB.cut] at hc
    have hH0 : Has w0 tb p0 n0 fp (.node l y r c) p w0 := ⟨⟨fp, h, hnd, fun k hk => .inl hk, Only.refl _ _⟩, hT⟩
    obtain ⟨b, av, pl, pr, fl, fr, rfl, hf, hb, hav, hl, hr⟩ := h
    have hbt := head_ne hT hb
    have hs := ((St.nil w0).track hT (by simp)).track hb (by simpa using hbt)
    refine ret_of_xc Tryz.func108 (by kernel_rfl) rfl Tryz.ntmps108 rfl rfl rfl ?_; refine xc_seq ?_; refine xc_region ?_ ?_; exact rfl; refine bx hs (k := ?_); intro bq wq hzq hs; repeat' (first|refine vs (k:=?_)|refine ps (k:=?_)|((first|refine st hs (k:=?_)|refine stA hs (k:=?_));intro w hs)|((first|refine al hs (k:=?_)|refine bx hs (k:=?_)|refine bs hs (k:=?_));intro b w hz hs)|refine qRg ?_|refine Nx.h ?_|refine qBo ?_|refine qCt ?_|refine qCf ?_|((with_reducible apply xs_guard);exact rfl;exact rfl;intro c hc;(fail_if_success have:true=c:=hc);(fail_if_success have:false=c:=hc);cases c)|(refine xc_if rfl (fun hc=>?_) (fun hc=>?_))|(refine xc_cond rfl (fun hc=>?_) (fun hc=>?_)))
    have hbq := hs.new (bq, true) (by simp) rfl
    simp only at hbq
    refine dr [] hs (k := ?_); intro hX w hs
    refine tk 0 hX (k := ?_)
    refine tk 1 hX (k := ?_)
    refine tk 2 hX (k := ?_)
    refine tk 3 hX (k := ?_)
    refine tk 4 hX (k := ?_)
    refine tk 5 hX (k := ?_)
    refine tk 6 hX (k := ?_)
    refine tk 7 hX (k := ?_)
    refine tk 8 hX (k := ?_)
    refine dt 9 hX (k := ?_)
    (with_reducible apply xs_call); exact rfl; exact rfl; exact ahd_ret x y _
    rintro v w1 ⟨rfl, ho⟩; replace hs := hs.call0 ho
    repeat' (first|refine vs (k:=?_)|refine ps (k:=?_)|((first|refine st hs (k:=?_)|refine stA hs (k:=?_));intro w hs)|((first|refine al hs (k:=?_)|refine bx hs (k:=?_)|refine bs hs (k:=?_));intro b w hz hs)|refine qRg ?_|refine Nx.h ?_|refine qBo ?_|refine qCt ?_|refine qCf ?_|((with_reducible apply xs_guard);exact rfl;exact rfl;intro c hc;(fail_if_success have:true=c:=hc);(fail_if_success have:false=c:=hc);cases c)|(refine xc_if rfl (fun hc=>?_) (fun hc=>?_))|(refine xc_cond rfl (fun hc=>?_) (fun hc=>?_)))
    refine dn (k := ?_)
    refine en (k := ?_)
    have ho1 : Only [] w0 w1 := hs.onlyF [] (by simp [hT, hb]) (by simp [D0])
    have hQ := hs.get At.head
    have hH : HasQ bq x.1 w0 tb p0 n0 fp (.node l y r c) (some ⟨b, 0, none⟩) w1 := ⟨hH0.only ho1, hQ⟩
    have hT1 := hs.get (At.tail (At.tail At.head))
    have hb1 := hs.get (At.tail At.head)
    have hl1 := hl.keep ho1 (Nodes.nil _) (by simp)
    have hr1 := hr.keep ho1 (Nodes.nil _) (by simp)
    generalize hq : ltT x y = q
    rw [show ltT x y = q from hq] at hc
    clear hs hH0 hT hb hl hr ho hav
    cases q
    · rw [cond_false] at hc
      have hs := (St.nil w1).track hb1 (by simp)
      repeat' (first|refine vs (k:=?_)|refine ps (k:=?_)|((first|refine st hs (k:=?_)|refine stA hs (k:=?_));intro w hs)|((first|refine al hs (k:=?_)|refine bx hs (k:=?_)|refine bs hs (k:=?_));intro b w hz hs)|refine Nx.h ?_|refine qBo ?_|refine qCt ?_|refine qCf ?_|((with_reducible apply xs_guard);exact rfl;exact rfl;intro c hc;(fail_if_success have:true=c:=hc);(fail_if_success have:false=c:=hc);cases c)|(refine xc_if rfl (fun hc=>?_) (fun hc=>?_))|(refine xc_cond rfl (fun hc=>?_) (fun hc=>?_)))
      refine xc_cutN (fun _ : Unit => [(0, .pointer (some ⟨tb, 0, none⟩)), (1, .pointer (some ⟨b, 0, none⟩)), (5, .pointer (some ⟨bq, 0, none⟩)), (6, .pointer none), (55, .bool l.red)]) (fun _ w => HasQ bq x.1 w0 tb p0 n0 fp (.node l y r c) (some ⟨b, 0, none⟩) w) ?_ ?_
      · repeat' (first|refine vs (k:=?_)|refine ps (k:=?_)|((first|refine st hs (k:=?_)|refine stA hs (k:=?_));intro w hs)|((first|refine al hs (k:=?_)|refine bx hs (k:=?_)|refine bs hs (k:=?_));intro b w hz hs)|refine qRg ?_|refine Nx.h ?_|refine qBo ?_|refine qCt ?_|refine qCf ?_|((with_reducible apply xs_guard);exact rfl;exact rfl;intro c hc;(fail_if_success have:true=c:=hc);(fail_if_success have:false=c:=hc);cases c)|(refine xc_if rfl (fun hc=>?_) (fun hc=>?_))|(refine xc_cond rfl (fun hc=>?_) (fun hc=>?_)))
        have ho2 : Only [] w1 _ := hs.onlyF [] (by simp [hb1]) (by simp [D0])
        (with_reducible apply xs_call); exact rfl; exact rfl; exact isRed_ret _ _ _ _ (hl1.keep ho2 (Nodes.nil _) (by simp))
        rintro v w' ⟨rfl, ho⟩; replace hs := hs.call0 ho
        generalize hq2 : l.red = q2
        repeat' (first|refine vs (k:=?_)|refine ps (k:=?_)|((first|refine st hs (k:=?_)|refine stA hs (k:=?_));intro w hs)|((first|refine al hs (k:=?_)|refine bx hs (k:=?_)|refine bs hs (k:=?_));intro b w hz hs)|refine qRg ?_|refine Nx.h ?_|refine qBo ?_|refine qCt ?_|refine qCf ?_|((with_reducible apply xs_guard);exact rfl;exact rfl;intro c hc;(fail_if_success have:true=c:=hc);(fail_if_success have:false=c:=hc);cases c)|(refine xc_if rfl (fun hc=>?_) (fun hc=>?_))|(refine xc_cond rfl (fun hc=>?_) (fun hc=>?_)))
        exact cutN_normal () (by (repeat (first | exact agree_nil | (apply agree_cons; exact rfl)))) (hH.only (hs.onlyF [] (by simp [hb1]) (by simp [D0])))
      clear hH hs hb1 hl1 hr1 hT1
      rintro _ env w hH
      refine xc_cutN (fun s : Option Addr => [(0, .pointer (some ⟨tb, 0, none⟩)), (1, .pointer s), (5, .pointer (some ⟨bq, 0, none⟩)), (6, .pointer none)]) (fun s w => HasQ bq x.1 w0 tb p0 n0 fp (bif l.red then RB.toRight (.node l y r c) else .node l y r c) s w) ?_ ?_
      · cases hq2 : l.red
        · repeat' (first|refine vs (k:=?_)|refine ps (k:=?_)|((first|refine st hs (k:=?_)|refine stA hs (k:=?_));intro w hs)|((first|refine al hs (k:=?_)|refine bx hs (k:=?_)|refine bs hs (k:=?_));intro b w hz hs)|refine qRg ?_|refine Nx.h ?_|refine qBo ?_|refine qCt ?_|refine qCf ?_|((with_reducible apply xs_guard);exact rfl;exact rfl;intro c hc;(fail_if_success have:true=c:=hc);(fail_if_success have:false=c:=hc);cases c)|(refine xc_if rfl (fun hc=>?_) (fun hc=>?_))|(refine xc_cond rfl (fun hc=>?_) (fun hc=>?_)))
          exact cutN_normal _ (by (repeat (first | exact agree_nil | (apply agree_cons; exact rfl)))) hH
        · obtain ⟨ll, z, lr, rfl⟩ := RB.red_true hq2
          obtain ⟨⟨⟨fp1, h1, h2, h3, h4⟩, h5⟩, hQ⟩ := hH
          have hs := St.nil w
          repeat' (first|refine vs (k:=?_)|refine ps (k:=?_)|((first|refine st hs (k:=?_)|refine stA hs (k:=?_));intro w hs)|((first|refine al hs (k:=?_)|refine bx hs (k:=?_)|refine bs hs (k:=?_));intro b w hz hs)|refine qRg ?_|refine Nx.h ?_|refine qBo ?_|refine qCt ?_|refine qCf ?_|((with_reducible apply xs_guard);exact rfl;exact rfl;intro c hc;(fail_if_success have:true=c:=hc);(fail_if_success have:false=c:=hc);cases c)|(refine xc_if rfl (fun hc=>?_) (fun hc=>?_))|(refine xc_cond rfl (fun hc=>?_) (fun hc=>?_)))
          (with_reducible apply xs_call); exact rfl; exact rfl; exact toRight_ret tb p0 n0 ll z lr y r c true _ _ _ h5 h1.stale h2 (by simpa [RB.list] using hlen)
          rintro v w' hv
          obtain ⟨p', rfl, hH⟩ := HasQ.next h1 h3 h4 h5 hQ hv
          have hs := St.nil w'
          repeat' (first|refine vs (k:=?_)|refine ps (k:=?_)|((first|refine st hs (k:=?_)|refine stA hs (k:=?_));intro w hs)|((first|refine al hs (k:=?_)|refine bx hs (k:=?_)|refine bs hs (k:=?_));intro b w hz hs)|refine qRg ?_|refine Nx.h ?_|refine qBo ?_|refine qCt ?_|refine qCf ?_|((with_reducible apply xs_guard);exact rfl;exact rfl;intro c hc;(fail_if_success have:true=c:=hc);(fail_if_success have:false=c:=hc);cases c)|(refine xc_if rfl (fun hc=>?_) (fun hc=>?_))|(refine xc_cond rfl (fun hc=>?_) (fun hc=>?_)))
          exact cutN_normal p' (by (repeat (first | exact agree_nil | (apply agree_cons; exact rfl)))) hH
      clear hH
      rintro p1 env w hH
      obtain ⟨l1, y1, r1, c1, hu, hul⟩ : ∃ l1 y1 r1 c1, (bif l.red then RB.toRight (.node l y r c) else .node l y r c : RB IT) = .node l1 y1 r1 c1 ∧ (RB.node l1 y1 r1 c1).list = (RB.node l y r c).list := by
        cases hq2 : l.red
        · exact ⟨_, _, _, _, rfl, rfl⟩
        · obtain ⟨ll, z, lr, rfl⟩ := RB.red_true hq2
          exact ⟨_, _, _, _, rfl, RB.list_toRight (.node (.node ll z lr true) y r c)⟩
      rw [hu] at hH hc
      rw [RB.right_node] at hc
      obtain ⟨⟨⟨fp1, ⟨b, av, pl, pr, fl, fr, rfl, hf1, hb, hav, hl, hr⟩, h2, h3, h4⟩, h5⟩, hQ⟩ := hH
      have hH : HasQ bq x.1 w0 tb p0 n0 fp (.node l1 y1 r1 c1) (some ⟨b, 0, none⟩) w := ⟨⟨⟨fp1, ⟨b, av, pl, pr, fl, fr, rfl, hf1, hb, hav, hl, hr⟩, h2, h3, h4⟩, h5⟩, hQ⟩
      cases r1 with
      | nil =>
        simp only [RB.isNil, cond_true, Option.some.injEq] at hc
        subst hc
        obtain ⟨rfl, rfl⟩ := hr
        have hs := (St.nil w).track hb (by simp)
        repeat' (first|refine vs (k:=?_)|refine ps (k:=?_)|((first|refine st hs (k:=?_)|refine stA hs (k:=?_));intro w hs)|((first|refine al hs (k:=?_)|refine bx hs (k:=?_)|refine bs hs (k:=?_));intro b w hz hs)|refine qRg ?_|refine Nx.h ?_|refine qBo ?_|refine qCt ?_|refine qCf ?_|((with_reducible apply xs_guard);exact rfl;exact rfl;intro c hc;(fail_if_success have:true=c:=hc);(fail_if_success have:false=c:=hc);cases c)|(refine xc_if rfl (fun hc=>?_) (fun hc=>?_))|(refine xc_cond rfl (fun hc=>?_) (fun hc=>?_)))
        first | refine rt (hq := ?_) | refine rt' (hq := ?_)
        exact ⟨none, [], rfl, ⟨rfl, rfl⟩, List.nodup_nil, (fun k hk => by cases hk), h4.step (hs.onlyF [] (by simp [hb]) (by simp [D0])) (by simp)⟩
      | node rl z rr rc =>
      simp only [RB.isNil, cond_false] at hc
      have hr0 := hr
      obtain ⟨u, avu, pll, plr, fll, flr, rfl, hf2, hu', hau, hll, hlr⟩ := hr
      have hub : u ≠ b := fun e => by subst e; rw [hf1, hf2] at h2; simp at h2
      have hs := ((St.nil w).track hb (by simp)).track hu' (by simpa using hub)
      repeat' (first|refine vs (k:=?_)|refine ps (k:=?_)|((first|refine st hs (k:=?_)|refine stA hs (k:=?_));intro w hs)|((first|refine al hs (k:=?_)|refine bx hs (k:=?_)|refine bs hs (k:=?_));intro b w hz hs)|refine Nx.h ?_|refine qBo ?_|refine qCt ?_|refine qCf ?_|((with_reducible apply xs_guard);exact rfl;exact rfl;intro c hc;(fail_if_success have:true=c:=hc);(fail_if_success have:false=c:=hc);cases c)|(refine xc_if rfl (fun hc=>?_) (fun hc=>?_))|(refine xc_cond rfl (fun hc=>?_) (fun hc=>?_)))
      refine xc_region ?_ ?_; exact rfl
      repeat' (first|refine vs (k:=?_)|refine ps (k:=?_)|((first|refine st hs (k:=?_)|refine stA hs (k:=?_));intro w hs)|((first|refine al hs (k:=?_)|refine bx hs (k:=?_)|refine bs hs (k:=?_));intro b w hz hs)|refine Nx.h ?_|refine qBo ?_|refine qCt ?_|refine qCf ?_|((with_reducible apply xs_guard);exact rfl;exact rfl;intro c hc;(fail_if_success have:true=c:=hc);(fail_if_success have:false=c:=hc);cases c)|(refine xc_if rfl (fun hc=>?_) (fun hc=>?_))|(refine xc_cond rfl (fun hc=>?_) (fun hc=>?_)))
      refine xc_cutN (fun _ : Unit => [(0, .pointer (some ⟨tb, 0, none⟩)), (1, .pointer (some ⟨b, 0, none⟩)), (5, .pointer (some ⟨bq, 0, none⟩)), (6, .pointer none), (80, .bool (!rc && !rl.red))]) (fun _ w => HasQ bq x.1 w0 tb p0 n0 fp (.node l1 y1 (.node rl z rr rc) c1) (some ⟨b, 0, none⟩) w) ?_ ?_
      · repeat' (first|refine vs (k:=?_)|refine ps (k:=?_)|((first|refine st hs (k:=?_)|refine stA hs (k:=?_));intro w hs)|((first|refine al hs (k:=?_)|refine bx hs (k:=?_)|refine bs hs (k:=?_));intro b w hz hs)|refine qRg ?_|refine Nx.h ?_|refine qBo ?_|refine qCt ?_|refine qCf ?_|((with_reducible apply xs_guard);exact rfl;exact rfl;intro c hc;(fail_if_success have:true=c:=hc);(fail_if_success have:false=c:=hc);cases c)|(refine xc_if rfl (fun hc=>?_) (fun hc=>?_))|(refine xc_cond rfl (fun hc=>?_) (fun hc=>?_)))
        have ho2 : Only [] w _ := hs.onlyF [] (by simp [hb, hu']) (by simp [D0])
        (with_reducible apply xs_call); exact rfl; exact rfl; exact isRed_ret _ _ _ _ (hr0.keep ho2 (Nodes.nil _) (by simp))
        rintro v w' ⟨rfl, ho⟩; replace hs := hs.call0 ho
        rw [RB.red_node]
        cases rc
        · repeat' (first|refine vs (k:=?_)|refine ps (k:=?_)|((first|refine st hs (k:=?_)|refine stA hs (k:=?_));intro w hs)|((first|refine al hs (k:=?_)|refine bx hs (k:=?_)|refine bs hs (k:=?_));intro b w hz hs)|refine qRg ?_|refine Nx.h ?_|refine qBo ?_|refine qCt ?_|refine qCf ?_|((with_reducible apply xs_guard);exact rfl;exact rfl;intro c hc;(fail_if_success have:true=c:=hc);(fail_if_success have:false=c:=hc);cases c)|(refine xc_if rfl (fun hc=>?_) (fun hc=>?_))|(refine xc_cond rfl (fun hc=>?_) (fun hc=>?_)))
          have ho2 : Only [] w _ := hs.onlyF [] (by simp [hb, hu']) (by simp [D0])
          (with_reducible apply xs_call); exact rfl; exact rfl; exact isRed_ret _ _ _ _ (hll.keep ho2 (Nodes.nil _) (by simp))
          rintro v w' ⟨rfl, ho⟩; replace hs := hs.call0 ho
          generalize hq2 : rl.red = q2
          repeat' (first|refine vs (k:=?_)|refine ps (k:=?_)|((first|refine st hs (k:=?_)|refine stA hs (k:=?_));intro w hs)|((first|refine al hs (k:=?_)|refine bx hs (k:=?_)|refine bs hs (k:=?_));intro b w hz hs)|refine qRg ?_|refine Nx.h ?_|refine qBo ?_|refine qCt ?_|refine qCf ?_|((with_reducible apply xs_guard);exact rfl;exact rfl;intro c hc;(fail_if_success have:true=c:=hc);(fail_if_success have:false=c:=hc);cases c)|(refine xc_if rfl (fun hc=>?_) (fun hc=>?_))|(refine xc_cond rfl (fun hc=>?_) (fun hc=>?_)))
          exact cutN_normal () (by (repeat (first | exact agree_nil | (apply agree_cons; exact rfl)))) (hH.only (hs.onlyF [] (by simp [hb, hu']) (by simp [D0])))
        · repeat' (first|refine vs (k:=?_)|refine ps (k:=?_)|((first|refine st hs (k:=?_)|refine stA hs (k:=?_));intro w hs)|((first|refine al hs (k:=?_)|refine bx hs (k:=?_)|refine bs hs (k:=?_));intro b w hz hs)|refine qRg ?_|refine Nx.h ?_|refine qBo ?_|refine qCt ?_|refine qCf ?_|((with_reducible apply xs_guard);exact rfl;exact rfl;intro c hc;(fail_if_success have:true=c:=hc);(fail_if_success have:false=c:=hc);cases c)|(refine xc_if rfl (fun hc=>?_) (fun hc=>?_))|(refine xc_cond rfl (fun hc=>?_) (fun hc=>?_)))
          exact cutN_normal () (by (repeat (first | exact agree_nil | (apply agree_cons; exact rfl)))) (hH.only (hs.onlyF [] (by simp [hb, hu']) (by simp [D0])))
      clear hH hs hb hl hr0 hu' hau hll hlr h2 h3 h4 h5 hav hf1 hf2
      rintro _ env w hH
      obtain ⟨d, hd⟩ : ∃ d, RB.downR (.node l1 y1 (.node rl z rr rc) c1) = some d := by
        cases hd : RB.downR (.node l1 y1 (.node rl z rr rc) c1) with
        | none => rw [hd] at hc; cases hc
        | some d => exact ⟨d, rfl⟩
      rw [hd] at hc
      have hdl := downR_list hd
      rw [hul] at hdl
      refine xc_cutN (fun s : Option Addr => [(0, .pointer (some ⟨tb, 0, none⟩)), (1, .pointer s), (5, .pointer (some ⟨bq, 0, none⟩)), (6, .pointer none)]) (fun s w => HasQ bq x.1 w0 tb p0 n0 fp d s w) ?_ ?_
      · unfold RB.downR at hd
        rw [RB.right_node, RB.red_node, RB.left_node] at hd
        generalize hq : (!rc && !rl.red) = q at *
        cases q
        · repeat' (first|refine vs (k:=?_)|refine ps (k:=?_)|((first|refine st hs (k:=?_)|refine stA hs (k:=?_));intro w hs)|((first|refine al hs (k:=?_)|refine bx hs (k:=?_)|refine bs hs (k:=?_));intro b w hz hs)|refine qRg ?_|refine Nx.h ?_|refine qBo ?_|refine qCt ?_|refine qCf ?_|((with_reducible apply xs_guard);exact rfl;exact rfl;intro c hc;(fail_if_success have:true=c:=hc);(fail_if_success have:false=c:=hc);cases c)|(refine xc_if rfl (fun hc=>?_) (fun hc=>?_))|(refine xc_cond rfl (fun hc=>?_) (fun hc=>?_)))
          cases hd
          exact cutN_normal _ (by (repeat (first | exact agree_nil | (apply agree_cons; exact rfl)))) hH
        · rw [cond_true] at hd
          cases hbo : RB.both (.node l1 y1 (.node rl z rr rc) c1)
          · rw [hbo] at hd; cases hd
          rw [hbo, cond_true] at hd
          cases hd
          obtain ⟨⟨⟨fp1, h1, h2, h3, h4⟩, h5⟩, hQ⟩ := hH
          have hs := St.nil w
          repeat' (first|refine vs (k:=?_)|refine ps (k:=?_)|((first|refine st hs (k:=?_)|refine stA hs (k:=?_));intro w hs)|((first|refine al hs (k:=?_)|refine bx hs (k:=?_)|refine bs hs (k:=?_));intro b w hz hs)|refine qRg ?_|refine Nx.h ?_|refine qBo ?_|refine qCt ?_|refine qCf ?_|((with_reducible apply xs_guard);exact rfl;exact rfl;intro c hc;(fail_if_success have:true=c:=hc);(fail_if_success have:false=c:=hc);cases c)|(refine xc_if rfl (fun hc=>?_) (fun hc=>?_))|(refine xc_cond rfl (fun hc=>?_) (fun hc=>?_)))
          (with_reducible apply xs_call); exact rfl; exact rfl; exact redRight_ret tb p0 n0 _ _ _ _ h5 h1 h2 (by rw [hul]; exact hlen) hbo
          rintro v w' hv
          obtain ⟨p', rfl, hH⟩ := HasQ.next h1 h3 h4 h5 hQ hv
          have hs := St.nil w'
          repeat' (first|refine vs (k:=?_)|refine ps (k:=?_)|((first|refine st hs (k:=?_)|refine stA hs (k:=?_));intro w hs)|((first|refine al hs (k:=?_)|refine bx hs (k:=?_)|refine bs hs (k:=?_));intro b w hz hs)|refine qRg ?_|refine Nx.h ?_|refine qBo ?_|refine qCt ?_|refine qCf ?_|((with_reducible apply xs_guard);exact rfl;exact rfl;intro c hc;(fail_if_success have:true=c:=hc);(fail_if_success have:false=c:=hc);cases c)|(refine xc_if rfl (fun hc=>?_) (fun hc=>?_))|(refine xc_cond rfl (fun hc=>?_) (fun hc=>?_)))
          exact cutN_normal p' (by (repeat (first | exact agree_nil | (apply agree_cons; exact rfl)))) hH
      clear hH
      rintro p2 env wB hH
      cases d with
      | nil => cases hc
      | node l2 y2 r2 c2 =>
      simp only at hc
      obtain ⟨⟨⟨fp1, ⟨b, av, pl, pr, fl, fr, rfl, rfl, hb, hav, hl, hr⟩, h2, h3, h4⟩, h5⟩, hQ⟩ := hH
      have hbt := head_ne h5 hb
      have n1 := blocks_ne hQ hb (by decide)
      have n2 := blocks_ne hQ h5 (by decide)
      have hs := (((St.nil wB).track h5 (by simp)).track hb (by simpa using hbt)).track hQ (by simp [n1, n2])
      rw [← hdl] at hlen
      simp only [RB.list, List.length_append, List.length_cons] at hlen
      repeat' (first|refine vs (k:=?_)|refine ps (k:=?_)|((first|refine st hs (k:=?_)|refine stA hs (k:=?_));intro w hs)|((first|refine al hs (k:=?_)|refine bx hs (k:=?_)|refine bs hs (k:=?_));intro b w hz hs)|refine qRg ?_|refine Nx.h ?_|refine qBo ?_|refine qCt ?_|refine qCf ?_|((with_reducible apply xs_guard);exact rfl;exact rfl;intro c hc;(fail_if_success have:true=c:=hc);(fail_if_success have:false=c:=hc);cases c)|(refine xc_if rfl (fun hc=>?_) (fun hc=>?_))|(refine xc_cond rfl (fun hc=>?_) (fun hc=>?_)))
      refine dr [] hs (k := ?_); intro hX w hs
      refine tk 0 hX (k := ?_)
      refine tk 1 hX (k := ?_)
      refine tk 2 hX (k := ?_)
      refine tk 3 hX (k := ?_)
      refine tk 4 hX (k := ?_)
      refine tk 5 hX (k := ?_)
      refine tk 6 hX (k := ?_)
      refine tk 7 hX (k := ?_)
      refine tk 8 hX (k := ?_)
      refine dt 9 hX (k := ?_)
      (with_reducible apply xs_call); exact rfl; exact rfl; exact ahd_ret y2 x _
      rintro v w' ⟨rfl, ho⟩; replace hs := hs.call0 ho
      repeat' (first|refine vs (k:=?_)|refine ps (k:=?_)|((first|refine st hs (k:=?_)|refine stA hs (k:=?_));intro w hs)|((first|refine al hs (k:=?_)|refine bx hs (k:=?_)|refine bs hs (k:=?_));intro b w hz hs)|refine qRg ?_|refine Nx.h ?_|refine qBo ?_|refine qCt ?_|refine qCf ?_|((with_reducible apply xs_guard);exact rfl;exact rfl;intro c hc;(fail_if_success have:true=c:=hc);(fail_if_success have:false=c:=hc);cases c)|(refine xc_if rfl (fun hc=>?_) (fun hc=>?_))|(refine xc_cond rfl (fun hc=>?_) (fun hc=>?_)))
      refine dn (k := ?_)
      refine en (k := ?_)
      generalize hq3 : ltT y2 x = q3
      rw [show ltT y2 x = q3 from hq3] at hc
      have ho1 : Only [] wB _ := hs.onlyF [] (by simp [h5, hb, hQ]) (by simp [D0])
      have hlw := hl.keep ho1 (Nodes.nil _) (by simp)
      have hrw := hr.keep ho1 (Nodes.nil _) (by simp)
      have hbw := hs.get (At.tail At.head)
      have hTw := hs.get (At.tail (At.tail At.head))
      have hQw := hs.get At.head
      have hO1 := h4.step ho1 (by simp)
      have hndr : fr.Nodup := by simp only [List.nodup_cons, List.nodup_append] at h2; exact h2.2.2.1
      cases q3
      · rw [cond_false] at hc
        obtain ⟨m, hm⟩ : ∃ m, RB.least r2 = some m := by
          cases hm : RB.least r2 with
          | none => rw [hm] at hc; cases hc
          | some m => exact ⟨m, rfl⟩
        rw [hm] at hc
        obtain ⟨r', hr', rfl⟩ := Option.map_eq_some_iff.1 hc
        clear hs
        have hs := (St.nil w').track hbw (by simp)
        repeat' (first|refine vs (k:=?_)|refine ps (k:=?_)|((first|refine st hs (k:=?_)|refine stA hs (k:=?_));intro w hs)|((first|refine al hs (k:=?_)|refine bx hs (k:=?_)|refine bs hs (k:=?_));intro b w hz hs)|refine qRg ?_|refine Nx.h ?_|refine qBo ?_|refine qCt ?_|refine qCf ?_|((with_reducible apply xs_guard);exact rfl;exact rfl;intro c hc;(fail_if_success have:true=c:=hc);(fail_if_success have:false=c:=hc);cases c)|(refine xc_if rfl (fun hc=>?_) (fun hc=>?_))|(refine xc_cond rfl (fun hc=>?_) (fun hc=>?_)))
        refine xc_cutB (fun q : Nat => [(0, .pointer (some ⟨tb, 0, none⟩)), (1, .pointer (some ⟨b, 0, none⟩)), (5, .pointer (some ⟨bq, 0, none⟩)), (6, .pointer none), (7, .pointer (some ⟨q, 0, none⟩))]) (fun q w2 => Only [] w' w2 ∧ q ∈ fr ∧ ∃ av' pl' pr' c', w'.heap[q]? = some (nodeO m av' pl' pr' c')) ?_ ?_
        · refine xc_loopS (fun (s : RB IT × Option Addr) => [(0, .pointer (some ⟨tb, 0, none⟩)), (1, .pointer (some ⟨b, 0, none⟩)), (5, .pointer (some ⟨bq, 0, none⟩)), (6, .pointer none), (7, .pointer s.2)])
            (fun s w2 => Only [] w' w2 ∧ RB.least s.1 = some m ∧ ∃ fps, TreeAt w' s.1 s.2 fps ∧ ∀ k ∈ fps, k ∈ fr)
            (fun s => s.1.list.length) (r2, pr) (by (repeat (first | exact agree_nil | (apply agree_cons; exact rfl)))) ⟨hs.onlyF [] (by simp [hbw]) (by simp [D0]), hm, fr, hrw, fun k hk => hk⟩ fun s env w2 ⟨g1, g2, fps, g3, g4⟩ => ?_
          clear hs
          obtain ⟨s, ps⟩ := s
          dsimp only at g2 g3 ⊢
          cases s with
          | nil => cases g2
          | node sl sz sr sc =>
          obtain ⟨q, avq, pql, pqr, fql, fqr, rfl, rfl, hqb, hqa, hql, hqr⟩ := g3
          have hq2 := g1.block hqb (by simp)
          have hs := (St.nil w2).track hq2 (by simp)
          cases sl with
          | nil =>
            obtain ⟨rfl, rfl⟩ := hql
            simp only [RB.least, Option.some.injEq] at g2
            subst g2
            repeat' (first|refine vs (k:=?_)|refine ps (k:=?_)|((first|refine st hs (k:=?_)|refine stA hs (k:=?_));intro w hs)|((first|refine al hs (k:=?_)|refine bx hs (k:=?_)|refine bs hs (k:=?_));intro b w hz hs)|refine qRg ?_|refine Nx.h ?_|refine qBo ?_|refine qCt ?_|refine qCf ?_|((with_reducible apply xs_guard);exact rfl;exact rfl;intro c hc;(fail_if_success have:true=c:=hc);(fail_if_success have:false=c:=hc);cases c)|(refine xc_if rfl (fun hc=>?_) (fun hc=>?_))|(refine xc_cond rfl (fun hc=>?_) (fun hc=>?_)))
            exact cutB_exit q (by (repeat (first | exact agree_nil | (apply agree_cons; exact rfl)))) ⟨g1.step (hs.onlyF [] (by simp [hq2]) (by simp [D0])) (by simp), g4 q List.mem_cons_self, _, _, _, _, hqb⟩
          | node a1 a2 a3 a4 =>
            have hql0 := hql
            obtain ⟨_, _, _, _, _, _, rfl, _⟩ := hql
            repeat' (first|refine vs (k:=?_)|refine ps (k:=?_)|((first|refine st hs (k:=?_)|refine stA hs (k:=?_));intro w hs)|((first|refine al hs (k:=?_)|refine bx hs (k:=?_)|refine bs hs (k:=?_));intro b w hz hs)|refine qRg ?_|refine Nx.h ?_|refine qBo ?_|refine qCt ?_|refine qCf ?_|((with_reducible apply xs_guard);exact rfl;exact rfl;intro c hc;(fail_if_success have:true=c:=hc);(fail_if_success have:false=c:=hc);cases c)|(refine xc_if rfl (fun hc=>?_) (fun hc=>?_))|(refine xc_cond rfl (fun hc=>?_) (fun hc=>?_)))
            exact loopS_next (.node a1 a2 a3 a4, _) (by simp only [RB.list, List.length_append, List.length_cons]; omega) (by (repeat (first | exact agree_nil | (apply agree_cons; exact rfl)))) ⟨g1.step (hs.onlyF [] (by simp [hq2]) (by simp [D0])) (by simp), g2, fql, hql0, fun k hk => g4 k (List.mem_cons_of_mem _ (List.mem_append_left _ hk))⟩
        · clear hs
          rintro q env w2 ⟨g1, g2, avq, plq, prq, cq, g3⟩
          have hqb : q ≠ b := fun e => by subst e; simp [g2] at h2
          have hb2 := g1.block hbw (by simp)
          have hq2 := g1.block g3 (by simp)
          have hs := ((St.nil w2).track hb2 (by simp)).track hq2 (by simpa using hqb)
          repeat' (first|refine vs (k:=?_)|refine ps (k:=?_)|((first|refine st hs (k:=?_)|refine stA hs (k:=?_));intro w hs)|((first|refine al hs (k:=?_)|refine bx hs (k:=?_)|refine bs hs (k:=?_));intro b w hz hs)|refine qRg ?_|refine Nx.h ?_|refine qBo ?_|refine qCt ?_|refine qCf ?_|((with_reducible apply xs_guard);exact rfl;exact rfl;intro c hc;(fail_if_success have:true=c:=hc);(fail_if_success have:false=c:=hc);cases c)|(refine xc_if rfl (fun hc=>?_) (fun hc=>?_))|(refine xc_cond rfl (fun hc=>?_) (fun hc=>?_)))
          have ho2 : Only [b] w2 _ := hs.onlyF [b] (by simp [hq2]) (by simp [D0])
          have hN : Nodes w2 [b] := Nodes.cons hb2 (Nodes.nil _)
          have hbn : b ∉ fl ∧ b ∉ fr := by simp only [List.nodup_cons, List.mem_append, not_or] at h2; exact h2.1
          have hl3 := (hlw.keep g1 (Nodes.nil _) (by simp)).keep ho2 hN (fun k hk hm => by obtain rfl := List.mem_singleton.1 hm; exact hbn.1 hk)
          have hr3 := (hrw.keep g1 (Nodes.nil _) (by simp)).keep ho2 hN (fun k hk hm => by obtain rfl := List.mem_singleton.1 hm; exact hbn.2 hk)
          have hb3 := hs.get (At.tail At.head)
          have hT3 := head_keep (head_keep hTw g1 (Nodes.nil _)) ho2 hN
          have hO3 := (hO1.step g1 (by simp)).step ho2 (fun k hk => by obtain rfl := List.mem_singleton.1 hk; exact h3 k List.mem_cons_self)
          (with_reducible apply xs_call); exact rfl; exact rfl; exact cutMin_ret tb p0 n0 k r2 r' pr fr _ hT3 hr3 hndr (by omega) hr'
          rintro v w4 hk
          obtain ⟨p', hv⟩ : ∃ p', v = .pointer p' := by obtain ⟨p', _, hv, _⟩ := hk; exact ⟨p', hv⟩
          subst hv
          obtain ⟨_, _, _, _, _, _, k4⟩ := id hk
          have hT4 := head_keep hT3 k4 hr3.nodes
          have hb4 := k4.block hb3 hbn.2
          clear hs
          have hs := (St.nil w4).track hb4 (by simp)
          repeat' (first|refine vs (k:=?_)|refine ps (k:=?_)|((first|refine st hs (k:=?_)|refine stA hs (k:=?_));intro w hs)|((first|refine al hs (k:=?_)|refine bx hs (k:=?_)|refine bs hs (k:=?_));intro b w hz hs)|refine qRg ?_|refine Nx.h ?_|refine qBo ?_|refine qCt ?_|refine qCf ?_|((with_reducible apply xs_guard);exact rfl;exact rfl;intro c hc;(fail_if_success have:true=c:=hc);(fail_if_success have:false=c:=hc);cases c)|(refine xc_if rfl (fun hc=>?_) (fun hc=>?_))|(refine xc_cond rfl (fun hc=>?_) (fun hc=>?_)))
          have ho5 : Only [b] w4 _ := hs.onlyF [b] (by simp) (by simp [D0])
          obtain ⟨fp2, s1, s2, s3, s4⟩ := graftR hb3 hl3 hr3.nodes h2 hk ho5 (hs.get At.head)
          have hln := cutMin_len k r2 r' hr'
          (with_reducible apply xs_call); exact rfl; exact rfl; exact mend_ret tb p0 n0 _ m _ c2 _ _ _ (head_keep hT4 ho5 (Nodes.cons hb4 (Nodes.nil _))) s1 s2 (by simp only [List.length_append, List.length_cons]; omega)
          rintro v w5 hm
          have hO := hO3.step s4 h3
          have hm2 := hm.up hO (sub_up h3 s3 hO3.size)
          have hs := St.nil w5
          repeat' (first|refine vs (k:=?_)|refine ps (k:=?_)|((first|refine st hs (k:=?_)|refine stA hs (k:=?_));intro w hs)|((first|refine al hs (k:=?_)|refine bx hs (k:=?_)|refine bs hs (k:=?_));intro b w hz hs)|refine qRg ?_|refine Nx.h ?_|refine qBo ?_|refine qCt ?_|refine qCf ?_|((with_reducible apply xs_guard);exact rfl;exact rfl;intro c hc;(fail_if_success have:true=c:=hc);(fail_if_success have:false=c:=hc);cases c)|(refine xc_if rfl (fun hc=>?_) (fun hc=>?_))|(refine xc_cond rfl (fun hc=>?_) (fun hc=>?_)))
          first | refine rt (hq := ?_) | refine rt' (hq := ?_)
          exact hm2
      · rw [cond_true] at hc
        obtain ⟨r', hr', rfl⟩ := Option.map_eq_some_iff.1 hc
        repeat' (first|refine vs (k:=?_)|refine ps (k:=?_)|((first|refine st hs (k:=?_)|refine stA hs (k:=?_));intro w hs)|((first|refine al hs (k:=?_)|refine bx hs (k:=?_)|refine bs hs (k:=?_));intro b w hz hs)|refine qRg ?_|refine Nx.h ?_|refine qBo ?_|refine qCt ?_|refine qCf ?_|((with_reducible apply xs_guard);exact rfl;exact rfl;intro c hc;(fail_if_success have:true=c:=hc);(fail_if_success have:false=c:=hc);cases c)|(refine xc_if rfl (fun hc=>?_) (fun hc=>?_))|(refine xc_cond rfl (fun hc=>?_) (fun hc=>?_)))
        refine dr [10] hs (k := ?_); intro hX w hs
        refine tk 0 hX (k := ?_)
        refine tk 1 hX (k := ?_)
        refine tk 2 hX (k := ?_)
        refine tk 3 hX (k := ?_)
        refine tk 4 hX (k := ?_)
        refine tk 5 hX (k := ?_)
        refine tk 6 hX (k := ?_)
        refine dt 7 hX (k := ?_)
        have ho1 : Only [] wB _ := hs.onlyF [] (by simp [h5, hb, hQ]) (by simp [D0])
        have hlw := hl.keep ho1 (Nodes.nil _) (by simp)
        have hrw := hr.keep ho1 (Nodes.nil _) (by simp)
        have hbw := hs.get (At.tail At.head)
        have hTw := hs.get (At.tail (At.tail At.head))
        have hQw := hs.get At.head
        have hO1 := h4.step ho1 (by simp)
        (with_reducible apply xs_call); exact rfl; exact rfl; exact cut_ret tb p0 n0 x k r2 r' pr fr _ hTw hrw hndr (by omega) hr'
        rintro v w4 hk
        obtain ⟨p', hv⟩ : ∃ p', v = .pointer p' := by obtain ⟨p', _, hv, _⟩ := hk; exact ⟨p', hv⟩
        subst hv
        obtain ⟨_, _, _, _, _, _, k4⟩ := id hk
        have hT1 := head_keep hTw k4 hrw.nodes
        have hb1 := k4.block hbw (fun h => by simp [h] at h2)
        have hq1 := k4.block hQw (nodes_q hrw.nodes hQw)
        clear hs
        have hs := (((St.nil w4).track hT1 (by simp)).track hb1 (by simpa using hbt)).track hq1 (by simp [n1, n2])
        repeat' (first|refine vs (k:=?_)|refine ps (k:=?_)|((first|refine st hs (k:=?_)|refine stA hs (k:=?_));intro w hs)|((first|refine al hs (k:=?_)|refine bx hs (k:=?_)|refine bs hs (k:=?_));intro b w hz hs)|refine qRg ?_|refine Nx.h ?_|refine qBo ?_|refine qCt ?_|refine qCf ?_|((with_reducible apply xs_guard);exact rfl;exact rfl;intro c hc;(fail_if_success have:true=c:=hc);(fail_if_success have:false=c:=hc);cases c)|(refine xc_if rfl (fun hc=>?_) (fun hc=>?_))|(refine xc_cond rfl (fun hc=>?_) (fun hc=>?_)))
        refine dn (k := ?_)
        refine tk 8 hX (k := ?_)
        refine tk 9 hX (k := ?_)
        refine dt 10 hX (k := ?_)
        repeat' (first|refine vs (k:=?_)|refine ps (k:=?_)|((first|refine st hs (k:=?_)|refine stA hs (k:=?_));intro w hs)|((first|refine al hs (k:=?_)|refine bx hs (k:=?_)|refine bs hs (k:=?_));intro b w hz hs)|refine qRg ?_|refine Nx.h ?_|refine qBo ?_|refine qCt ?_|refine qCf ?_|((with_reducible apply xs_guard);exact rfl;exact rfl;intro c hc;(fail_if_success have:true=c:=hc);(fail_if_success have:false=c:=hc);cases c)|(refine xc_if rfl (fun hc=>?_) (fun hc=>?_))|(refine xc_cond rfl (fun hc=>?_) (fun hc=>?_)))
        refine dn (k := ?_)
        refine en (k := ?_)
        repeat' (first|refine vs (k:=?_)|refine ps (k:=?_)|((first|refine st hs (k:=?_)|refine stA hs (k:=?_));intro w hs)|((first|refine al hs (k:=?_)|refine bx hs (k:=?_)|refine bs hs (k:=?_));intro b w hz hs)|refine qRg ?_|refine Nx.h ?_|refine qBo ?_|refine qCt ?_|refine qCf ?_|((with_reducible apply xs_guard);exact rfl;exact rfl;intro c hc;(fail_if_success have:true=c:=hc);(fail_if_success have:false=c:=hc);cases c)|(refine xc_if rfl (fun hc=>?_) (fun hc=>?_))|(refine xc_cond rfl (fun hc=>?_) (fun hc=>?_)))
        have ho3 : Only [b] w4 _ := hs.onlyF [b] (by simp [hT1, hq1]) (by simp [D0])
        obtain ⟨fp2, s1, s2, s3, s4⟩ := graftR hbw hlw hrw.nodes h2 hk ho3 (hs.get (At.tail At.head))
        have hln := cut_len x k r2 r' hr'
        (with_reducible apply xs_call); exact rfl; exact rfl; exact mend_ret tb p0 n0 _ y2 _ c2 _ _ _ (head_keep hT1 ho3 (Nodes.cons hb1 (Nodes.nil _))) s1 s2 (by simp only [List.length_append, List.length_cons]; omega)
        rintro v w3 hm
        have hm2 := hm.up (hO1.step s4 h3) (sub_up h3 s3 hO1.size)
        have hs := St.nil w3
        repeat' (first|refine vs (k:=?_)|refine ps (k:=?_)|((first|refine st hs (k:=?_)|refine stA hs (k:=?_));intro w hs)|((first|refine al hs (k:=?_)|refine bx hs (k:=?_)|refine bs hs (k:=?_));intro b w hz hs)|refine qRg ?_|refine Nx.h ?_|refine qBo ?_|refine qCt ?_|refine qCf ?_|((with_reducible apply xs_guard);exact rfl;exact rfl;intro c hc;(fail_if_success have:true=c:=hc);(fail_if_success have:false=c:=hc);cases c)|(refine xc_if rfl (fun hc=>?_) (fun hc=>?_))|(refine xc_cond rfl (fun hc=>?_) (fun hc=>?_)))
        first | refine rt (hq := ?_) | refine rt' (hq := ?_)
        exact hm2
    · rw [cond_true] at hc
      cases l with
      | nil => cases hc
      | node ll z lr lc =>
      simp only [RB.isNil, cond_false] at hc
      have hl0 := hl1
      obtain ⟨u, avu, pll, plr, fll, flr, rfl, rfl, hu, hau, hll, hlr⟩ := hl1
      have hub : u ≠ b := fun e => by subst e; rw [hf] at hnd; simp at hnd
      have hs := ((St.nil w1).track hb1 (by simp)).track hu (by simpa using hub)
      repeat' (first|refine vs (k:=?_)|refine ps (k:=?_)|((first|refine st hs (k:=?_)|refine stA hs (k:=?_));intro w hs)|((first|refine al hs (k:=?_)|refine bx hs (k:=?_)|refine bs hs (k:=?_));intro b w hz hs)|refine Nx.h ?_|refine qBo ?_|refine qCt ?_|refine qCf ?_|((with_reducible apply xs_guard);exact rfl;exact rfl;intro c hc;(fail_if_success have:true=c:=hc);(fail_if_success have:false=c:=hc);cases c)|(refine xc_if rfl (fun hc=>?_) (fun hc=>?_))|(refine xc_cond rfl (fun hc=>?_) (fun hc=>?_)))
      refine xc_cutN (fun _ : Unit => [(0, .pointer (some ⟨tb, 0, none⟩)), (1, .pointer (some ⟨b, 0, none⟩)), (5, .pointer (some ⟨bq, 0, none⟩)), (6, .pointer none), (34, .bool (!lc && !ll.red))]) (fun _ w => HasQ bq x.1 w0 tb p0 n0 fp (.node (.node ll z lr lc) y r c) (some ⟨b, 0, none⟩) w) ?_ ?_
      · repeat' (first|refine vs (k:=?_)|refine ps (k:=?_)|((first|refine st hs (k:=?_)|refine stA hs (k:=?_));intro w hs)|((first|refine al hs (k:=?_)|refine bx hs (k:=?_)|refine bs hs (k:=?_));intro b w hz hs)|refine qRg ?_|refine Nx.h ?_|refine qBo ?_|refine qCt ?_|refine qCf ?_|((with_reducible apply xs_guard);exact rfl;exact rfl;intro c hc;(fail_if_success have:true=c:=hc);(fail_if_success have:false=c:=hc);cases c)|(refine xc_if rfl (fun hc=>?_) (fun hc=>?_))|(refine xc_cond rfl (fun hc=>?_) (fun hc=>?_)))
        have ho2 : Only [] w1 _ := hs.onlyF [] (by simp [hb1, hu]) (by simp [D0])
        (with_reducible apply xs_call); exact rfl; exact rfl; exact isRed_ret _ _ _ _ (hl0.keep ho2 (Nodes.nil _) (by simp))
        rintro v w' ⟨rfl, ho⟩; replace hs := hs.call0 ho
        rw [RB.red_node]
        cases lc
        · repeat' (first|refine vs (k:=?_)|refine ps (k:=?_)|((first|refine st hs (k:=?_)|refine stA hs (k:=?_));intro w hs)|((first|refine al hs (k:=?_)|refine bx hs (k:=?_)|refine bs hs (k:=?_));intro b w hz hs)|refine qRg ?_|refine Nx.h ?_|refine qBo ?_|refine qCt ?_|refine qCf ?_|((with_reducible apply xs_guard);exact rfl;exact rfl;intro c hc;(fail_if_success have:true=c:=hc);(fail_if_success have:false=c:=hc);cases c)|(refine xc_if rfl (fun hc=>?_) (fun hc=>?_))|(refine xc_cond rfl (fun hc=>?_) (fun hc=>?_)))
          have ho2 : Only [] w1 _ := hs.onlyF [] (by simp [hb1, hu]) (by simp [D0])
          (with_reducible apply xs_call); exact rfl; exact rfl; exact isRed_ret _ _ _ _ (hll.keep ho2 (Nodes.nil _) (by simp))
          rintro v w' ⟨rfl, ho⟩; replace hs := hs.call0 ho
          generalize hq2 : ll.red = q2
          repeat' (first|refine vs (k:=?_)|refine ps (k:=?_)|((first|refine st hs (k:=?_)|refine stA hs (k:=?_));intro w hs)|((first|refine al hs (k:=?_)|refine bx hs (k:=?_)|refine bs hs (k:=?_));intro b w hz hs)|refine qRg ?_|refine Nx.h ?_|refine qBo ?_|refine qCt ?_|refine qCf ?_|((with_reducible apply xs_guard);exact rfl;exact rfl;intro c hc;(fail_if_success have:true=c:=hc);(fail_if_success have:false=c:=hc);cases c)|(refine xc_if rfl (fun hc=>?_) (fun hc=>?_))|(refine xc_cond rfl (fun hc=>?_) (fun hc=>?_)))
          exact cutN_normal () (by (repeat (first | exact agree_nil | (apply agree_cons; exact rfl)))) (hH.only (hs.onlyF [] (by simp [hb1, hu]) (by simp [D0])))
        · repeat' (first|refine vs (k:=?_)|refine ps (k:=?_)|((first|refine st hs (k:=?_)|refine stA hs (k:=?_));intro w hs)|((first|refine al hs (k:=?_)|refine bx hs (k:=?_)|refine bs hs (k:=?_));intro b w hz hs)|refine qRg ?_|refine Nx.h ?_|refine qBo ?_|refine qCt ?_|refine qCf ?_|((with_reducible apply xs_guard);exact rfl;exact rfl;intro c hc;(fail_if_success have:true=c:=hc);(fail_if_success have:false=c:=hc);cases c)|(refine xc_if rfl (fun hc=>?_) (fun hc=>?_))|(refine xc_cond rfl (fun hc=>?_) (fun hc=>?_)))
          exact cutN_normal () (by (repeat (first | exact agree_nil | (apply agree_cons; exact rfl)))) (hH.only (hs.onlyF [] (by simp [hb1, hu]) (by simp [D0])))
      clear hH hs hb1 hl0 hu hau hll hlr hr1 hT1
      rintro _ env w hH
      obtain ⟨d, hd⟩ : ∃ d, RB.downL (.node (.node ll z lr lc) y r c) = some d := by
        cases hd : RB.downL (.node (.node ll z lr lc) y r c) with
        | none => rw [hd] at hc; cases hc
        | some d => exact ⟨d, rfl⟩
      rw [hd] at hc
      have hdl := downL_list hd
      refine xc_cutN (fun s : Option Addr => [(0, .pointer (some ⟨tb, 0, none⟩)), (1, .pointer s), (5, .pointer (some ⟨bq, 0, none⟩)), (6, .pointer none)]) (fun s w => HasQ bq x.1 w0 tb p0 n0 fp d s w) ?_ ?_
      · unfold RB.downL at hd
        rw [RB.left_node, RB.red_node, RB.left_node] at hd
        generalize hq : (!lc && !ll.red) = q at *
        cases q
        · repeat' (first|refine vs (k:=?_)|refine ps (k:=?_)|((first|refine st hs (k:=?_)|refine stA hs (k:=?_));intro w hs)|((first|refine al hs (k:=?_)|refine bx hs (k:=?_)|refine bs hs (k:=?_));intro b w hz hs)|refine qRg ?_|refine Nx.h ?_|refine qBo ?_|refine qCt ?_|refine qCf ?_|((with_reducible apply xs_guard);exact rfl;exact rfl;intro c hc;(fail_if_success have:true=c:=hc);(fail_if_success have:false=c:=hc);cases c)|(refine xc_if rfl (fun hc=>?_) (fun hc=>?_))|(refine xc_cond rfl (fun hc=>?_) (fun hc=>?_)))
          cases hd
          exact cutN_normal _ (by (repeat (first | exact agree_nil | (apply agree_cons; exact rfl)))) hH
        · rw [cond_true] at hd
          cases hbo : RB.both (.node (.node ll z lr lc) y r c)
          · rw [hbo] at hd; cases hd
          rw [hbo, cond_true] at hd
          cases hd
          obtain ⟨⟨⟨fp1, h1, h2, h3, h4⟩, h5⟩, hQ⟩ := hH
          have hs := St.nil w
          repeat' (first|refine vs (k:=?_)|refine ps (k:=?_)|((first|refine st hs (k:=?_)|refine stA hs (k:=?_));intro w hs)|((first|refine al hs (k:=?_)|refine bx hs (k:=?_)|refine bs hs (k:=?_));intro b w hz hs)|refine qRg ?_|refine Nx.h ?_|refine qBo ?_|refine qCt ?_|refine qCf ?_|((with_reducible apply xs_guard);exact rfl;exact rfl;intro c hc;(fail_if_success have:true=c:=hc);(fail_if_success have:false=c:=hc);cases c)|(refine xc_if rfl (fun hc=>?_) (fun hc=>?_))|(refine xc_cond rfl (fun hc=>?_) (fun hc=>?_)))
          (with_reducible apply xs_call); exact rfl; exact rfl; exact redLeft_ret tb p0 n0 _ _ _ _ h5 h1 h2 hlen hbo
          rintro v w' hv
          obtain ⟨p', rfl, hH⟩ := HasQ.next h1 h3 h4 h5 hQ hv
          have hs := St.nil w'
          repeat' (first|refine vs (k:=?_)|refine ps (k:=?_)|((first|refine st hs (k:=?_)|refine stA hs (k:=?_));intro w hs)|((first|refine al hs (k:=?_)|refine bx hs (k:=?_)|refine bs hs (k:=?_));intro b w hz hs)|refine qRg ?_|refine Nx.h ?_|refine qBo ?_|refine qCt ?_|refine qCf ?_|((with_reducible apply xs_guard);exact rfl;exact rfl;intro c hc;(fail_if_success have:true=c:=hc);(fail_if_success have:false=c:=hc);cases c)|(refine xc_if rfl (fun hc=>?_) (fun hc=>?_))|(refine xc_cond rfl (fun hc=>?_) (fun hc=>?_)))
          exact cutN_normal p' (by (repeat (first | exact agree_nil | (apply agree_cons; exact rfl)))) hH
      clear hH
      rintro p1 env w hH
      cases d with
      | nil => cases hc
      | node l1 x1 r1 c1 =>
      obtain ⟨l', hl', rfl⟩ := Option.map_eq_some_iff.1 hc
      obtain ⟨⟨⟨fp1, ⟨b, av, pl, pr, fl, fr, rfl, rfl, hb, hav, hl, hr⟩, h2, h3, h4⟩, h5⟩, hQ⟩ := hH
      have hbt := head_ne h5 hb
      have n1 := blocks_ne hQ hb (by decide)
      have n2 := blocks_ne hQ h5 (by decide)
      have hs := (((St.nil w).track h5 (by simp)).track hb (by simpa using hbt)).track hQ (by simp [n1, n2])
      rw [← hdl] at hlen
      simp only [RB.list, List.length_append, List.length_cons] at hlen
      repeat' (first|refine vs (k:=?_)|refine ps (k:=?_)|((first|refine st hs (k:=?_)|refine stA hs (k:=?_));intro w hs)|((first|refine al hs (k:=?_)|refine bx hs (k:=?_)|refine bs hs (k:=?_));intro b w hz hs)|refine qRg ?_|refine Nx.h ?_|refine qBo ?_|refine qCt ?_|refine qCf ?_|((with_reducible apply xs_guard);exact rfl;exact rfl;intro c hc;(fail_if_success have:true=c:=hc);(fail_if_success have:false=c:=hc);cases c)|(refine xc_if rfl (fun hc=>?_) (fun hc=>?_))|(refine xc_cond rfl (fun hc=>?_) (fun hc=>?_)))
      refine dr [10] hs (k := ?_); intro hX wD hs
      refine tk 0 hX (k := ?_)
      refine tk 1 hX (k := ?_)
      refine tk 2 hX (k := ?_)
      refine tk 3 hX (k := ?_)
      refine tk 4 hX (k := ?_)
      refine tk 5 hX (k := ?_)
      refine tk 6 hX (k := ?_)
      refine dt 7 hX (k := ?_)
      have ho1 : Only [] w _ := hs.onlyF [] (by simp [h5, hb, hQ]) (by simp [D0])
      have hQw := hs.get At.head
      have hlw := hl.keep ho1 (Nodes.nil _) (by simp)
      have hrw := hr.keep ho1 (Nodes.nil _) (by simp)
      have hbw := hs.get (At.tail At.head)
      have hTw := head_keep h5 ho1 (Nodes.nil _)
      (with_reducible apply xs_call); exact rfl; exact rfl; exact cut_ret tb p0 n0 x k l1 l' pl fl _ hTw hlw (by simp only [List.nodup_cons, List.nodup_append] at h2; exact h2.2.1) (by omega) hl'
      rintro v w' hk
      obtain ⟨p', hv⟩ : ∃ p', v = .pointer p' := by obtain ⟨p', _, hv, _⟩ := hk; exact ⟨p', hv⟩
      subst hv
      obtain ⟨_, _, _, _, _, _, k4⟩ := id hk
      have hT1 := head_keep hTw k4 hlw.nodes
      have hb1 := k4.block hbw (fun h => by simp [h] at h2)
      have hq1 := k4.block hQw (nodes_q hlw.nodes hQw)
      clear hs
      have hs := (((St.nil w').track hT1 (by simp)).track hb1 (by simpa using hbt)).track hq1 (by simp [n1, n2])
      repeat' (first|refine vs (k:=?_)|refine ps (k:=?_)|((first|refine st hs (k:=?_)|refine stA hs (k:=?_));intro w hs)|((first|refine al hs (k:=?_)|refine bx hs (k:=?_)|refine bs hs (k:=?_));intro b w hz hs)|refine qRg ?_|refine Nx.h ?_|refine qBo ?_|refine qCt ?_|refine qCf ?_|((with_reducible apply xs_guard);exact rfl;exact rfl;intro c hc;(fail_if_success have:true=c:=hc);(fail_if_success have:false=c:=hc);cases c)|(refine xc_if rfl (fun hc=>?_) (fun hc=>?_))|(refine xc_cond rfl (fun hc=>?_) (fun hc=>?_)))
      refine dn (k := ?_)
      refine tk 8 hX (k := ?_)
      refine tk 9 hX (k := ?_)
      refine dt 10 hX (k := ?_)
      repeat' (first|refine vs (k:=?_)|refine ps (k:=?_)|((first|refine st hs (k:=?_)|refine stA hs (k:=?_));intro w hs)|((first|refine al hs (k:=?_)|refine bx hs (k:=?_)|refine bs hs (k:=?_));intro b w hz hs)|refine qRg ?_|refine Nx.h ?_|refine qBo ?_|refine qCt ?_|refine qCf ?_|((with_reducible apply xs_guard);exact rfl;exact rfl;intro c hc;(fail_if_success have:true=c:=hc);(fail_if_success have:false=c:=hc);cases c)|(refine xc_if rfl (fun hc=>?_) (fun hc=>?_))|(refine xc_cond rfl (fun hc=>?_) (fun hc=>?_)))
      refine dn (k := ?_)
      refine en (k := ?_)
      repeat' (first|refine vs (k:=?_)|refine ps (k:=?_)|((first|refine st hs (k:=?_)|refine stA hs (k:=?_));intro w hs)|((first|refine al hs (k:=?_)|refine bx hs (k:=?_)|refine bs hs (k:=?_));intro b w hz hs)|refine qRg ?_|refine Nx.h ?_|refine qBo ?_|refine qCt ?_|refine qCf ?_|((with_reducible apply xs_guard);exact rfl;exact rfl;intro c hc;(fail_if_success have:true=c:=hc);(fail_if_success have:false=c:=hc);cases c)|(refine xc_if rfl (fun hc=>?_) (fun hc=>?_))|(refine xc_cond rfl (fun hc=>?_) (fun hc=>?_)))
      have ho3 : Only [b] w' _ := hs.onlyF [b] (by simp [hT1, hq1]) (by simp [D0])
      obtain ⟨fp2, s1, s2, s3, s4⟩ := graftL hbw hlw.nodes hrw h2 hk ho3 (hs.get (At.tail At.head))
      have hln := cut_len x k l1 l' hl'
      (with_reducible apply xs_call); exact rfl; exact rfl; exact mend_ret tb p0 n0 _ x1 _ c1 _ _ _ (head_keep hT1 ho3 (Nodes.cons hb1 (Nodes.nil _))) s1 s2 (by simp only [List.length_append, List.length_cons]; omega)
      rintro v w3 hm
      have hO := (h4.step ho1 (by simp)).step s4 h3
      have hm2 := hm.up hO (sub_up h3 s3 (h4.step ho1 (by simp)).size)
      have hs := St.nil w3
      repeat' (first|refine vs (k:=?_)|refine ps (k:=?_)|((first|refine st hs (k:=?_)|refine stA hs (k:=?_));intro w hs)|((first|refine al hs (k:=?_)|refine bx hs (k:=?_)|refine bs hs (k:=?_));intro b w hz hs)|refine qRg ?_|refine Nx.h ?_|refine qBo ?_|refine qCt ?_|refine qCf ?_|((with_reducible apply xs_guard);exact rfl;exact rfl;intro c hc;(fail_if_success have:true=c:=hc);(fail_if_success have:false=c:=hc);cases c)|(refine xc_if rfl (fun hc=>?_) (fun hc=>?_))|(refine xc_cond rfl (fun hc=>?_) (fun hc=>?_)))
      first | refine rt (hq := ?_) | refine rt' (hq := ?_)
      exact hm2
end Go.Proofs.YtegoaabjccignaaGreatDoorX.IB

namespace Go.Proofs.YtegoaabjccignaaGreatDoorX.IB
open Go Go.RowKit
attribute [local irreducible] XS XC XA thenE blockE retE loopE loopS cutB cutN doneE SE
abbrev boolO (b : Bool) : Obj := .cells #[.bool b] 4 (0, 0)
abbrev ptrO (tb : Nat) : Obj := .cells #[.pointer (some ⟨tb, 0, none⟩)] 78 (0, 0)
abbrev itO (a : It) : Obj := .cells #[.int .u64 a.p.t, .int .u32 a.p.r, .int .u32 a.p.w, .int .i64 a.id, .int .u64 a.d.t, .int .u32 a.d.r, .int .u32 a.d.w] 34 (0, 0)
def addO (acc : Option IT) (m : IT) : Option IT := some (match acc with | none => m | some a => snr a m)
def valO (acc : Option IT) : It := match acc with | none => .zero | some a => a.1
def allO (acc : Option IT) (t : RB IT) : Option IT := match all? t with | none => acc | some a => addO acc a
def foldT (q : IT → Bool) : RB IT → Option IT → Option IT
  | .nil, acc => acc
  | .node l x r _, acc => bif q x then foldT q r (addO (allO acc l) x) else foldT q l acc
set_option maxHeartbeats 1000000 in
theorem add6_ret (b7 b2 b6 tb : Nat) (p : Option Addr) (n0 : Int) (acc : Option IT) (m : IT) (w0 : World) (h7 : w0.heap[b7]? = some (boolO acc.isSome)) (h2 : w0.heap[b2]? = some (ptrO tb)) (h6 : w0.heap[b6]? = some (itO (valO acc))) (hT : w0.heap[tb]? = some (treeO p n0)) :
    Ret Tryz.prog 99 #[iv m.1, .pointer (some ⟨b7, 0, none⟩), .pointer (some ⟨b2, 0, none⟩), .pointer (some ⟨b6, 0, none⟩)] w0 fun v w' => w'.heap[b7]? = some (boolO true) ∧ w'.heap[b6]? = some (itO (valO (addO acc m))) ∧ Only [b7, b6] w0 w' := by
  have n1 : b2 ≠ tb := blocks_ne h2 hT (by decide)
  have n2 : b6 ≠ tb := blocks_ne h6 hT (by decide)
  have n3 : b7 ≠ tb := blocks_ne h7 hT (by decide)
  have n4 : b6 ≠ b2 := blocks_ne h6 h2 (by decide)
  have n5 : b7 ≠ b2 := blocks_ne h7 h2 (by decide)
  have n6 : b7 ≠ b6 := blocks_ne h7 h6 (by decide)
  have hs := ((((St.nil w0).track hT (by simp)).track h2 (by simpa using n1)).track h6 (by simp [n2, n4])).track h7 (by simp [n3, n5, n6])
  cases acc with
  | none =>
    refine ret_of_xc Tryz.func99 (by kernel_rfl) rfl Tryz.ntmps99 rfl rfl rfl ?_; refine xc_seq ?_; refine xc_region ?_ ?_; exact rfl; refine bx hs (k := ?_); intro bq wq hzq hs; repeat' (first|refine vs (k:=?_)|refine ps (k:=?_)|((first|refine st hs (k:=?_)|refine stA hs (k:=?_));intro w hs)|((first|refine al hs (k:=?_)|refine bx hs (k:=?_)|refine bs hs (k:=?_));intro b w hz hs)|refine qRg ?_|refine Nx.h ?_|refine qBo ?_|refine qCt ?_|refine qCf ?_|((with_reducible apply xs_guard);exact rfl;exact rfl;intro c hc;(fail_if_success have:true=c:=hc);(fail_if_success have:false=c:=hc);cases c)|(refine xc_if rfl (fun hc=>?_) (fun hc=>?_))|(refine xc_cond rfl (fun hc=>?_) (fun hc=>?_)))
    first | refine rt' (vs := []) (hr := resOk_nil) (hq := ?_) | refine rt (vs := []) (hr := resOk_nil) (hq := ?_)
    have ho : Only [b7, b6] w0 _ := hs.onlyF [b7, b6] (by simp [h2, hT]) (by simp [D0])
    exact ⟨hs.get (At.tail At.head), hs.get (At.tail (At.tail At.head)), ho⟩
  | some a =>
    refine ret_of_xc Tryz.func99 (by kernel_rfl) rfl Tryz.ntmps99 rfl rfl rfl ?_; refine xc_seq ?_; refine xc_region ?_ ?_; exact rfl; refine bx hs (k := ?_); intro bq wq hzq hs; repeat' (first|refine vs (k:=?_)|refine ps (k:=?_)|((first|refine st hs (k:=?_)|refine stA hs (k:=?_));intro w hs)|((first|refine al hs (k:=?_)|refine bx hs (k:=?_)|refine bs hs (k:=?_));intro b w hz hs)|refine qRg ?_|refine Nx.h ?_|refine qBo ?_|refine qCt ?_|refine qCf ?_|((with_reducible apply xs_guard);exact rfl;exact rfl;intro c hc;(fail_if_success have:true=c:=hc);(fail_if_success have:false=c:=hc);cases c)|(refine xc_if rfl (fun hc=>?_) (fun hc=>?_))|(refine xc_cond rfl (fun hc=>?_) (fun hc=>?_)))
    refine dr [7] hs (k := ?_); intro hX w hs
    refine tk 0 hX (k := ?_)
    refine tk 1 hX (k := ?_)
    refine tk 2 hX (k := ?_)
    refine tk 3 hX (k := ?_)
    refine tk 4 hX (k := ?_)
    refine tk 5 hX (k := ?_)
    refine dt 6 hX (k := ?_)
    (with_reducible apply xs_call); exact rfl; exact rfl; exact sooner_ret a m _
    rintro v w' ⟨rfl, ho⟩; replace hs := hs.call0 ho; repeat' (first|refine vs (k:=?_)|refine ps (k:=?_)|((first|refine st hs (k:=?_)|refine stA hs (k:=?_));intro w hs)|((first|refine al hs (k:=?_)|refine bx hs (k:=?_)|refine bs hs (k:=?_));intro b w hz hs)|refine qRg ?_|refine Nx.h ?_|refine qBo ?_|refine qCt ?_|refine qCf ?_|((with_reducible apply xs_guard);exact rfl;exact rfl;intro c hc;(fail_if_success have:true=c:=hc);(fail_if_success have:false=c:=hc);cases c)|(refine xc_if rfl (fun hc=>?_) (fun hc=>?_))|(refine xc_cond rfl (fun hc=>?_) (fun hc=>?_)))
    refine dn (k := ?_)
    refine dt 7 hX (k := ?_)
    repeat' (first|refine vs (k:=?_)|refine ps (k:=?_)|((first|refine st hs (k:=?_)|refine stA hs (k:=?_));intro w hs)|((first|refine al hs (k:=?_)|refine bx hs (k:=?_)|refine bs hs (k:=?_));intro b w hz hs)|refine qRg ?_|refine Nx.h ?_|refine qBo ?_|refine qCt ?_|refine qCf ?_|((with_reducible apply xs_guard);exact rfl;exact rfl;intro c hc;(fail_if_success have:true=c:=hc);(fail_if_success have:false=c:=hc);cases c)|(refine xc_if rfl (fun hc=>?_) (fun hc=>?_))|(refine xc_cond rfl (fun hc=>?_) (fun hc=>?_)))
    refine dn (k := ?_)
    refine en (k := ?_)
    repeat' (first|refine vs (k:=?_)|refine ps (k:=?_)|((first|refine st hs (k:=?_)|refine stA hs (k:=?_));intro w hs)|((first|refine al hs (k:=?_)|refine bx hs (k:=?_)|refine bs hs (k:=?_));intro b w hz hs)|refine qRg ?_|refine Nx.h ?_|refine qBo ?_|refine qCt ?_|refine qCf ?_|((with_reducible apply xs_guard);exact rfl;exact rfl;intro c hc;(fail_if_success have:true=c:=hc);(fail_if_success have:false=c:=hc);cases c)|(refine xc_if rfl (fun hc=>?_) (fun hc=>?_))|(refine xc_cond rfl (fun hc=>?_) (fun hc=>?_)))
    first | refine rt' (vs := []) (hr := resOk_nil) (hq := ?_) | refine rt (vs := []) (hr := resOk_nil) (hq := ?_)
    have ho : Only [b7, b6] w0 _ := hs.onlyF [b7, b6] (by simp [h2, hT]) (by simp [D0])
    exact ⟨hs.get (At.tail At.head), hs.get (At.tail (At.tail At.head)), ho⟩
structure FoldAt (w0 : World) (tb b2 b4 b6 b7 : Nat) (acc : Option IT) (w : World) : Prop where
  o : Only [] w0 w
  h2 : w.heap[b2]? = some (ptrO tb)
  h7 : w.heap[b7]? = some (boolO acc.isSome)
  h6 : w.heap[b6]? = some (itO (valO acc))
  h4 : w.heap[b4]? = some (itO .zero)
theorem FoldAt.only {w0 w w' : World} {tb b2 b4 b6 b7 : Nat} {acc : Option IT} (h : FoldAt w0 tb b2 b4 b6 b7 acc w) (ho : Only [] w w') : FoldAt w0 tb b2 b4 b6 b7 acc w' := by
  obtain ⟨o, h2, h7, h6, h4⟩ := h
  exact ⟨o.step ho (by simp), ho.block h2 (by simp), ho.block h7 (by simp), ho.block h6 (by simp), ho.block h4 (by simp)⟩
theorem FoldAt.add {w0 w w' : World} {tb b2 b4 b6 b7 : Nat} {acc : Option IT} {m : IT} (h : FoldAt w0 tb b2 b4 b6 b7 acc w) (g6 : w0.heap.size ≤ b6) (g7 : w0.heap.size ≤ b7) (n46 : b4 ≠ b6)
    (k7 : w'.heap[b7]? = some (boolO true)) (k6 : w'.heap[b6]? = some (itO (valO (addO acc m)))) (ho : Only [b7, b6] w w') : FoldAt w0 tb b2 b4 b6 b7 (addO acc m) w' := by
  obtain ⟨o, h2, h7, h6, h4⟩ := h
  refine ⟨o.step ho (fun k hk => ?_), ho.block h2 (fun hm => ?_), k7, k6, ho.block h4 (fun hm => ?_)⟩
  · simp only [List.mem_cons, List.not_mem_nil, or_false] at hk
    rcases hk with rfl | rfl
    · exact .inr g7
    · exact .inr g6
  · simp only [List.mem_cons, List.not_mem_nil, or_false] at hm
    rcases hm with rfl | rfl
    · exact blocks_ne h2 h7 (by decide) rfl
    · exact blocks_ne h2 h6 (by decide) rfl
  · simp only [List.mem_cons, List.not_mem_nil, or_false] at hm
    rcases hm with rfl | rfl
    · exact blocks_ne h4 h7 (by decide) rfl
    · exact n46 rfl
theorem no_self {w : World} {x : IT} {c : Bool} {b : Nat} {av : It} {pr : Option Addr} {fl : List Nat} {a1 : RB IT} (hlb : w.heap[b]? = some (nodeO x av (some ⟨b, 0, none⟩) pr c)) (hll : TreeAt w a1 (some ⟨b, 0, none⟩) fl) : False := by
  revert fl
  induction a1 with
  | nil => rintro fl ⟨h, _⟩; cases h
  | node a y d e ih _ =>
    rintro fl ⟨b', av', pl', pr', fl', fr', h1, h2, h3, h4, h5, h6⟩
    cases h1
    rw [hlb] at h3
    have hp : (some ⟨b, 0, none⟩ : Option Addr) = pl' := by
      injection h3 with h3; injection h3 with h3; injection h3 with h3
      simp only [List.cons.injEq, Value.pointer.injEq] at h3
      exact h3.2.2.2.2.2.2.2.2.2.2.2.2.2.2.1
    rw [← hp] at h5
    exact ih h5
set_option maxHeartbeats 4000000 in
theorem fold_ret (tb : Nat) (t : RB IT) (F : List Nat) (w0 : World) (h : Obj6 w0 tb t F) (fid : Nat) (caps : List Value) (q : IT → Bool)
    (hq : ∀ (y : IT) (w : World), y ∈ t.list → Only [] w0 w → Ret Tryz.prog fid (iv y.1 :: caps).toArray w fun v w' => v = .bool (q y) ∧ Only [] w w') :
    Ret Tryz.prog 66 #[.pointer (some ⟨tb, 0, none⟩), .func (.func fid) #[] caps.toArray] w0 fun v w' => v = .tuple #[iv (valO (foldT q t none)), .bool (foldT q t none).isSome] ∧ Only [] w0 w' := by
  obtain ⟨p, fp, rfl, hT, ht, hnd⟩ := h
  have hs := (St.nil w0).track hT (by simp)
  refine ret_of_xc Tryz.func66 (by kernel_rfl) rfl Tryz.ntmps66 rfl rfl rfl ?_
  repeat' (first|refine vs (k:=?_)|refine ps (k:=?_)|((first|refine st hs (k:=?_)|refine stA hs (k:=?_));intro w hs)|((first|refine al hs (k:=?_)|refine bx hs (k:=?_)|refine bs hs (k:=?_));intro b w hz hs)|refine Nx.h ?_|refine qBo ?_|refine qCt ?_|refine qCf ?_|((with_reducible apply xs_guard);exact rfl;exact rfl;intro c hc;(fail_if_success have:true=c:=hc);(fail_if_success have:false=c:=hc);cases c)|(refine xc_if rfl (fun hc=>?_) (fun hc=>?_))|(refine xc_cond rfl (fun hc=>?_) (fun hc=>?_)))
  refine xc_region ?_ ?_; exact rfl
  refine bx hs (k := ?_); intro b2 w hz hs
  refine al hs (k := ?_); intro b4 w hz hs
  repeat' (first|refine vs (k:=?_)|refine ps (k:=?_)|((first|refine st hs (k:=?_)|refine stA hs (k:=?_));intro w hs)|((first|refine al hs (k:=?_)|refine bx hs (k:=?_)|refine bs hs (k:=?_));intro b w hz hs)|refine Nx.h ?_|refine qBo ?_|refine qCt ?_|refine qCf ?_|((with_reducible apply xs_guard);exact rfl;exact rfl;intro c hc;(fail_if_success have:true=c:=hc);(fail_if_success have:false=c:=hc);cases c)|(refine xc_if rfl (fun hc=>?_) (fun hc=>?_))|(refine xc_cond rfl (fun hc=>?_) (fun hc=>?_)))
  refine xc_region ?_ ?_; exact rfl
  refine al hs (k := ?_); intro b6 w hz hs
  repeat' (first|refine vs (k:=?_)|refine ps (k:=?_)|((first|refine st hs (k:=?_)|refine stA hs (k:=?_));intro w hs)|((first|refine al hs (k:=?_)|refine bx hs (k:=?_)|refine bs hs (k:=?_));intro b w hz hs)|refine Nx.h ?_|refine qBo ?_|refine qCt ?_|refine qCf ?_|((with_reducible apply xs_guard);exact rfl;exact rfl;intro c hc;(fail_if_success have:true=c:=hc);(fail_if_success have:false=c:=hc);cases c)|(refine xc_if rfl (fun hc=>?_) (fun hc=>?_))|(refine xc_cond rfl (fun hc=>?_) (fun hc=>?_)))
  refine xc_region ?_ ?_; exact rfl
  refine al hs (k := ?_); intro b7 w hz hs
  repeat' (first|refine vs (k:=?_)|refine ps (k:=?_)|((first|refine st hs (k:=?_)|refine stA hs (k:=?_));intro w hs)|((first|refine al hs (k:=?_)|refine bx hs (k:=?_)|refine bs hs (k:=?_));intro b w hz hs)|refine qRg ?_|refine Nx.h ?_|refine qBo ?_|refine qCt ?_|refine qCf ?_|((with_reducible apply xs_guard);exact rfl;exact rfl;intro c hc;(fail_if_success have:true=c:=hc);(fail_if_success have:false=c:=hc);cases c)|(refine xc_if rfl (fun hc=>?_) (fun hc=>?_))|(refine xc_cond rfl (fun hc=>?_) (fun hc=>?_)))
  have g2 := hs.new (b2, true) (by simp) rfl
  have g4 := hs.new (b4, true) (by simp) rfl
  have g6 := hs.new (b6, true) (by simp) rfl
  have g7 := hs.new (b7, true) (by simp) rfl
  have n46 : b4 ≠ b6 := by have := hs.nd; simp only [List.map_cons, List.nodup_cons, List.mem_cons, not_or] at this; exact Ne.symm this.2.1.1
  have hF0 : FoldAt w0 tb b2 b4 b6 b7 none _ := ⟨hs.onlyF [] (by simp [hT]) (by simp [D0]), hs.get (At.tail (At.tail (At.tail At.head))), hs.get At.head, hs.get (At.tail At.head), hs.get (At.tail (At.tail At.head))⟩
  refine xc_cutB (fun _ : Unit => [(4, .pointer (some ⟨b4, 0, none⟩)), (6, .pointer (some ⟨b6, 0, none⟩)), (7, .pointer (some ⟨b7, 0, none⟩))]) (fun _ w => FoldAt w0 tb b2 b4 b6 b7 (foldT q t none) w) ?_ ?_
  · refine xc_loopS (fun (s : RB IT × Option Addr × Option IT) => [(1, .func (.func fid) #[] caps.toArray), (2, .pointer (some ⟨b2, 0, none⟩)), (4, .pointer (some ⟨b4, 0, none⟩)), (6, .pointer (some ⟨b6, 0, none⟩)), (7, .pointer (some ⟨b7, 0, none⟩)), (8, .func (.func 99) #[] #[.pointer (some ⟨b7, 0, none⟩), .pointer (some ⟨b2, 0, none⟩), .pointer (some ⟨b6, 0, none⟩)]), (9, .pointer s.2.1)])
      (fun s w => FoldAt w0 tb b2 b4 b6 b7 s.2.2 w ∧ foldT q t none = foldT q s.1 s.2.2 ∧ (∀ y ∈ s.1.list, y ∈ t.list) ∧ ∃ fps, TreeAt w0 s.1 s.2.1 fps)
      (fun s => s.1.list.length) (t, p, none) (by (repeat (first | exact agree_nil | (apply agree_cons; exact rfl)))) ⟨hF0, rfl, fun _ h => h, fp, ht⟩ fun s env w2 ⟨k1, k2, k3, fps, k4⟩ => ?_
    clear hs hF0
    obtain ⟨s, ps, acc⟩ := s
    dsimp only at k1 k2 k3 k4 ⊢
    cases s with
    | nil =>
      obtain ⟨rfl, rfl⟩ := k4
      have hs := St.nil w2
      repeat' (first|refine vs (k:=?_)|refine ps (k:=?_)|((first|refine st hs (k:=?_)|refine stA hs (k:=?_));intro w hs)|((first|refine al hs (k:=?_)|refine bx hs (k:=?_)|refine bs hs (k:=?_));intro b w hz hs)|refine qRg ?_|refine Nx.h ?_|refine qBo ?_|refine qCt ?_|refine qCf ?_|((with_reducible apply xs_guard);exact rfl;exact rfl;intro c hc;(fail_if_success have:true=c:=hc);(fail_if_success have:false=c:=hc);cases c)|(refine xc_if rfl (fun hc=>?_) (fun hc=>?_))|(refine xc_cond rfl (fun hc=>?_) (fun hc=>?_)))
      exact cutB_exit () (by (repeat (first | exact agree_nil | (apply agree_cons; exact rfl)))) (by rw [k2]; exact k1.only (hs.only0 rfl))
    | node l y r c =>
      obtain ⟨b, av, pl, pr, fl, fr, rfl, rfl, hb, hav, hl, hr⟩ := k4
      have hbw := k1.o.block hb (by simp)
      have hTw := k1.o.block hT (by simp)
      have hbt := head_ne hT hb
      have d1 : b ≠ b2 := blocks_ne hbw k1.h2 (by decide)
      have hs := ((St.nil w2).track k1.h2 (by simp)).track hbw (by simpa using d1)
      have k3l : ∀ z ∈ l.list, z ∈ t.list := fun z hz => k3 z (by simp [RB.list, hz])
      have k3r : ∀ z ∈ r.list, z ∈ t.list := fun z hz => k3 z (by simp [RB.list, hz])
      repeat' (first|refine vs (k:=?_)|refine ps (k:=?_)|((first|refine st hs (k:=?_)|refine stA hs (k:=?_));intro w hs)|((first|refine al hs (k:=?_)|refine bx hs (k:=?_)|refine bs hs (k:=?_));intro b w hz hs)|refine qRg ?_|refine Nx.h ?_|refine qBo ?_|refine qCt ?_|refine qCf ?_|((with_reducible apply xs_guard);exact rfl;exact rfl;intro c hc;(fail_if_success have:true=c:=hc);(fail_if_success have:false=c:=hc);cases c)|(refine xc_if rfl (fun hc=>?_) (fun hc=>?_))|(refine xc_cond rfl (fun hc=>?_) (fun hc=>?_)))
      have ho := hs.onlyF [] (by simp [hbw, k1.h2]) (by simp [D0])
      (with_reducible apply xs_call); exact rfl; exact rfl; exact hq y _ (k3 y (by simp [RB.list])) (k1.o.step ho (by simp))
      rintro v w' ⟨rfl, ho⟩; replace hs := hs.call0 ho
      cases hqy : q y
      · have e1 : foldT q (.node l y r c) acc = foldT q l acc := by simp [foldT, hqy]
        rw [e1] at k2
        repeat' (first|refine vs (k:=?_)|refine ps (k:=?_)|((first|refine st hs (k:=?_)|refine stA hs (k:=?_));intro w hs)|((first|refine al hs (k:=?_)|refine bx hs (k:=?_)|refine bs hs (k:=?_));intro b w hz hs)|refine qRg ?_|refine Nx.h ?_|refine qBo ?_|refine qCt ?_|refine qCf ?_|((with_reducible apply xs_guard);exact rfl;exact rfl;intro c hc;(fail_if_success have:true=c:=hc);(fail_if_success have:false=c:=hc);cases c)|(refine xc_if rfl (fun hc=>?_) (fun hc=>?_))|(refine xc_cond rfl (fun hc=>?_) (fun hc=>?_)))
        exact loopS_next (l, pl, acc) (by simp only [RB.list, List.length_append, List.length_cons]; omega) (by (repeat (first | exact agree_nil | (apply agree_cons; exact rfl)))) ⟨k1.only (hs.onlyF [] (by simp [hbw, k1.h2]) (by simp [D0])), k2, k3l, fl, hl⟩
      · have e1 : foldT q (.node l y r c) acc = foldT q r (addO (allO acc l) y) := by simp [foldT, hqy]
        rw [e1] at k2
        have hF1 := k1.only (hs.onlyF [] (by simp [hbw, k1.h2]) (by simp [D0]))
        clear k1 hbw hTw hs ho
        have hN67 : ∀ (w : World) (acc : Option IT), FoldAt w0 tb b2 b4 b6 b7 acc w → b ∉ [b7, b6] ∧ tb ∉ [b7, b6] := fun w acc k => by
          have hbw := k.o.block hb (by simp)
          have hTw := k.o.block hT (by simp)
          obtain ⟨_, _, k7, k6, _⟩ := k
          have e1 := blocks_ne hbw k7 (by decide)
          have e2 := blocks_ne hbw k6 (by decide)
          have e3 := blocks_ne hTw k7 (by decide)
          have e4 := blocks_ne hTw k6 (by decide)
          simp [e1, e2, e3, e4]
        have hs := St.nil w'
        repeat' (first|refine vs (k:=?_)|refine ps (k:=?_)|((first|refine st hs (k:=?_)|refine stA hs (k:=?_));intro w hs)|((first|refine al hs (k:=?_)|refine bx hs (k:=?_)|refine bs hs (k:=?_));intro b w hz hs)|refine Nx.h ?_|refine qBo ?_|refine qCt ?_|refine qCf ?_|((with_reducible apply xs_guard);exact rfl;exact rfl;intro c hc;(fail_if_success have:true=c:=hc);(fail_if_success have:false=c:=hc);cases c)|(refine xc_if rfl (fun hc=>?_) (fun hc=>?_))|(refine xc_cond rfl (fun hc=>?_) (fun hc=>?_)))
        refine xc_cutN (fun _ : Unit => [(1, .func (.func fid) #[] caps.toArray), (2, .pointer (some ⟨b2, 0, none⟩)), (4, .pointer (some ⟨b4, 0, none⟩)), (6, .pointer (some ⟨b6, 0, none⟩)), (7, .pointer (some ⟨b7, 0, none⟩)), (8, .func (.func 99) #[] #[.pointer (some ⟨b7, 0, none⟩), .pointer (some ⟨b2, 0, none⟩), .pointer (some ⟨b6, 0, none⟩)]), (9, .pointer (some ⟨b, 0, none⟩)), (35, .bool (!RB.isNil l))]) (fun _ w => FoldAt w0 tb b2 b4 b6 b7 acc w) ?_ ?_
        · have hbw := hF1.o.block hb (by simp)
          clear hs
          have hs := (St.nil w').track hbw (by simp)
          cases l with
          | nil =>
            obtain ⟨rfl, rfl⟩ := hl
            repeat' (first|refine vs (k:=?_)|refine ps (k:=?_)|((first|refine st hs (k:=?_)|refine stA hs (k:=?_));intro w hs)|((first|refine al hs (k:=?_)|refine bx hs (k:=?_)|refine bs hs (k:=?_));intro b w hz hs)|refine qRg ?_|refine Nx.h ?_|refine qBo ?_|refine qCt ?_|refine qCf ?_|((with_reducible apply xs_guard);exact rfl;exact rfl;intro c hc;(fail_if_success have:true=c:=hc);(fail_if_success have:false=c:=hc);cases c)|(refine xc_if rfl (fun hc=>?_) (fun hc=>?_))|(refine xc_cond rfl (fun hc=>?_) (fun hc=>?_)))
            exact cutN_normal () (by (repeat (first | exact agree_nil | (apply agree_cons; exact rfl)))) (hF1.only (hs.onlyF [] (by simp [hbw]) (by simp [D0])))
          | node a1 a2 a3 a4 =>
            obtain ⟨_, _, _, _, _, _, rfl, _⟩ := hl
            repeat' (first|refine vs (k:=?_)|refine ps (k:=?_)|((first|refine st hs (k:=?_)|refine stA hs (k:=?_));intro w hs)|((first|refine al hs (k:=?_)|refine bx hs (k:=?_)|refine bs hs (k:=?_));intro b w hz hs)|refine qRg ?_|refine Nx.h ?_|refine qBo ?_|refine qCt ?_|refine qCf ?_|((with_reducible apply xs_guard);exact rfl;exact rfl;intro c hc;(fail_if_success have:true=c:=hc);(fail_if_success have:false=c:=hc);cases c)|(refine xc_if rfl (fun hc=>?_) (fun hc=>?_))|(refine xc_cond rfl (fun hc=>?_) (fun hc=>?_)))
            exact cutN_normal () (by (repeat (first | exact agree_nil | (apply agree_cons; exact rfl)))) (hF1.only (hs.onlyF [] (by simp [hbw]) (by simp [D0])))
        clear hF1 hs
        rintro _ env w3 hF1
        refine xc_cutN (fun _ : Unit => [(1, .func (.func fid) #[] caps.toArray), (2, .pointer (some ⟨b2, 0, none⟩)), (4, .pointer (some ⟨b4, 0, none⟩)), (6, .pointer (some ⟨b6, 0, none⟩)), (7, .pointer (some ⟨b7, 0, none⟩)), (8, .func (.func 99) #[] #[.pointer (some ⟨b7, 0, none⟩), .pointer (some ⟨b2, 0, none⟩), .pointer (some ⟨b6, 0, none⟩)]), (9, .pointer (some ⟨b, 0, none⟩))]) (fun _ w => FoldAt w0 tb b2 b4 b6 b7 (allO acc l) w) ?_ ?_
        · have hbw := hF1.o.block hb (by simp)
          cases l with
          | nil =>
            have hs := St.nil w3
            repeat' (first|refine vs (k:=?_)|refine ps (k:=?_)|((first|refine st hs (k:=?_)|refine stA hs (k:=?_));intro w hs)|((first|refine al hs (k:=?_)|refine bx hs (k:=?_)|refine bs hs (k:=?_));intro b w hz hs)|refine qRg ?_|refine Nx.h ?_|refine qBo ?_|refine qCt ?_|refine qCf ?_|((with_reducible apply xs_guard);exact rfl;exact rfl;intro c hc;(fail_if_success have:true=c:=hc);(fail_if_success have:false=c:=hc);cases c)|(refine xc_if rfl (fun hc=>?_) (fun hc=>?_))|(refine xc_cond rfl (fun hc=>?_) (fun hc=>?_)))
            exact cutN_normal () (by (repeat (first | exact agree_nil | (apply agree_cons; exact rfl)))) hF1
          | node a1 a2 a3 a4 =>
            obtain ⟨lb, lav, lpl, lpr, lfl, lfr, rfl, rfl, hlb, hlav, hll, hlr⟩ := hl
            have hlav' : lav = (allN a1 a2 a3).1 := hlav
            subst hlav'
            have hlbw := hF1.o.block hlb (by simp)
            have hlbb : lb ≠ b := fun e => by
              subst e
              rw [hlb] at hb
              have hp : (some ⟨lb, 0, none⟩ : Option Addr) = lpl := by
                injection hb with h3; injection h3 with h3; injection h3 with h3
                simp only [List.cons.injEq, Value.pointer.injEq] at h3
                exact h3.2.2.2.2.2.2.2.2.2.2.2.2.2.2.1.symm
              rw [← hp] at hlb hll
              exact no_self hlb hll
            have hs := ((St.nil w3).track hbw (by simp)).track hlbw (by simpa using hlbb)
            repeat' (first|refine vs (k:=?_)|refine ps (k:=?_)|((first|refine st hs (k:=?_)|refine stA hs (k:=?_));intro w hs)|((first|refine al hs (k:=?_)|refine bx hs (k:=?_)|refine bs hs (k:=?_));intro b w hz hs)|refine qRg ?_|refine Nx.h ?_|refine qBo ?_|refine qCt ?_|refine qCf ?_|((with_reducible apply xs_guard);exact rfl;exact rfl;intro c hc;(fail_if_success have:true=c:=hc);(fail_if_success have:false=c:=hc);cases c)|(refine xc_if rfl (fun hc=>?_) (fun hc=>?_))|(refine xc_cond rfl (fun hc=>?_) (fun hc=>?_)))
            have ho := hs.onlyF [] (by simp [hbw, hlbw]) (by simp [D0])
            have hF2 := hF1.only ho
            obtain ⟨o, q2, q7, q6, _⟩ := id hF2
            (with_reducible apply xs_call); exact rfl; exact rfl; exact add6_ret b7 b2 b6 tb p _ acc (allN a1 a2 a3) _ q7 q2 q6 (o.block hT (by simp))
            rintro v w4 ⟨m7, m6, mo⟩
            have hs := St.nil w4
            repeat' (first|refine vs (k:=?_)|refine ps (k:=?_)|((first|refine st hs (k:=?_)|refine stA hs (k:=?_));intro w hs)|((first|refine al hs (k:=?_)|refine bx hs (k:=?_)|refine bs hs (k:=?_));intro b w hz hs)|refine qRg ?_|refine Nx.h ?_|refine qBo ?_|refine qCt ?_|refine qCf ?_|((with_reducible apply xs_guard);exact rfl;exact rfl;intro c hc;(fail_if_success have:true=c:=hc);(fail_if_success have:false=c:=hc);cases c)|(refine xc_if rfl (fun hc=>?_) (fun hc=>?_))|(refine xc_cond rfl (fun hc=>?_) (fun hc=>?_)))
            exact cutN_normal () (by (repeat (first | exact agree_nil | (apply agree_cons; exact rfl)))) (hF2.add g6 g7 n46 m7 m6 mo)
        clear hF1
        rintro _ env w4 hF1
        have hbw := hF1.o.block hb (by simp)
        have hTw := hF1.o.block hT (by simp)
        have d2 : b2 ≠ tb := blocks_ne hF1.h2 hTw (by decide)
        have hs := (((St.nil w4).track hTw (by simp)).track hF1.h2 (by simpa using d2)).track hbw (by simp [d1, hbt])
        repeat' (first|refine vs (k:=?_)|refine ps (k:=?_)|((first|refine st hs (k:=?_)|refine stA hs (k:=?_));intro w hs)|((first|refine al hs (k:=?_)|refine bx hs (k:=?_)|refine bs hs (k:=?_));intro b w hz hs)|refine qRg ?_|refine Nx.h ?_|refine qBo ?_|refine qCt ?_|refine qCf ?_|((with_reducible apply xs_guard);exact rfl;exact rfl;intro c hc;(fail_if_success have:true=c:=hc);(fail_if_success have:false=c:=hc);cases c)|(refine xc_if rfl (fun hc=>?_) (fun hc=>?_))|(refine xc_cond rfl (fun hc=>?_) (fun hc=>?_)))
        refine dr [] hs (k := ?_); intro hX w hs
        refine tk 0 hX (k := ?_)
        refine tk 1 hX (k := ?_)
        refine tk 2 hX (k := ?_)
        refine tk 3 hX (k := ?_)
        refine tk 4 hX (k := ?_)
        refine tk 5 hX (k := ?_)
        refine tk 6 hX (k := ?_)
        refine tk 7 hX (k := ?_)
        refine tk 8 hX (k := ?_)
        refine dt 9 hX (k := ?_)
        (with_reducible apply xs_call); exact rfl; exact rfl; exact itself_ret y.1 _
        rintro v w5 ⟨rfl, ho⟩; replace hs := hs.call0 ho
        repeat' (first|refine vs (k:=?_)|refine ps (k:=?_)|((first|refine st hs (k:=?_)|refine stA hs (k:=?_));intro w hs)|((first|refine al hs (k:=?_)|refine bx hs (k:=?_)|refine bs hs (k:=?_));intro b w hz hs)|refine qRg ?_|refine Nx.h ?_|refine qBo ?_|refine qCt ?_|refine qCf ?_|((with_reducible apply xs_guard);exact rfl;exact rfl;intro c hc;(fail_if_success have:true=c:=hc);(fail_if_success have:false=c:=hc);cases c)|(refine xc_if rfl (fun hc=>?_) (fun hc=>?_))|(refine xc_cond rfl (fun hc=>?_) (fun hc=>?_)))
        refine dn (k := ?_)
        refine dt 10 hX (k := ?_)
        have hF2 := hF1.only (hs.onlyF [] (by simp [hbw, hTw, hF1.h2]) (by simp [D0]))
        obtain ⟨o, q2, q7, q6, _⟩ := id hF2
        (with_reducible apply xs_call); exact rfl; exact rfl; exact add6_ret b7 b2 b6 tb p _ (allO acc l) y _ q7 q2 q6 (o.block hT (by simp))
        rintro v6 w6 ⟨m7, m6, mo⟩
        have hn := hN67 _ _ hF2
        have hF3 := hF2.add g6 g7 n46 m7 m6 mo
        have hb3 := hF3.o.block hb (by simp)
        have hT3 := hF3.o.block hT (by simp)
        clear hs
        have hs := (((St.nil w6).track hT3 (by simp)).track hF3.h2 (by simpa using d2)).track hb3 (by simp [d1, hbt])
        repeat' (first|refine vs (k:=?_)|refine ps (k:=?_)|((first|refine st hs (k:=?_)|refine stA hs (k:=?_));intro w hs)|((first|refine al hs (k:=?_)|refine bx hs (k:=?_)|refine bs hs (k:=?_));intro b w hz hs)|refine qRg ?_|refine Nx.h ?_|refine qBo ?_|refine qCt ?_|refine qCf ?_|((with_reducible apply xs_guard);exact rfl;exact rfl;intro c hc;(fail_if_success have:true=c:=hc);(fail_if_success have:false=c:=hc);cases c)|(refine xc_if rfl (fun hc=>?_) (fun hc=>?_))|(refine xc_cond rfl (fun hc=>?_) (fun hc=>?_)))
        refine dn (k := ?_)
        refine en (k := ?_)
        repeat' (first|refine vs (k:=?_)|refine ps (k:=?_)|((first|refine st hs (k:=?_)|refine stA hs (k:=?_));intro w hs)|((first|refine al hs (k:=?_)|refine bx hs (k:=?_)|refine bs hs (k:=?_));intro b w hz hs)|refine qRg ?_|refine Nx.h ?_|refine qBo ?_|refine qCt ?_|refine qCf ?_|((with_reducible apply xs_guard);exact rfl;exact rfl;intro c hc;(fail_if_success have:true=c:=hc);(fail_if_success have:false=c:=hc);cases c)|(refine xc_if rfl (fun hc=>?_) (fun hc=>?_))|(refine xc_cond rfl (fun hc=>?_) (fun hc=>?_)))
        exact loopS_next (r, pr, addO (allO acc l) y) (by simp only [RB.list, List.length_append, List.length_cons]; omega) (by (repeat (first | exact agree_nil | (apply agree_cons; exact rfl)))) ⟨hF3.only (hs.onlyF [] (by simp [hb3, hT3, hF3.h2]) (by simp [D0])), k2, k3r, fr, hr⟩
  · rintro _ env w ⟨o, k2, k7, k6, k4⟩
    clear hs hF0
    have d1 : b7 ≠ b6 := blocks_ne k7 k6 (by decide)
    have d2 : b7 ≠ b4 := blocks_ne k7 k4 (by decide)
    have hs := (((St.nil w).track k4 (by simp)).track k6 (by simpa using Ne.symm n46)).track k7 (by simp [d1, d2])
    repeat' (first|refine vs (k:=?_)|refine ps (k:=?_)|((first|refine st hs (k:=?_)|refine stA hs (k:=?_));intro w hs)|((first|refine al hs (k:=?_)|refine bx hs (k:=?_)|refine bs hs (k:=?_));intro b w hz hs)|refine qRg ?_|refine Nx.h ?_|refine qBo ?_|refine qCt ?_|refine qCf ?_|((with_reducible apply xs_guard);exact rfl;exact rfl;intro c hc;(fail_if_success have:true=c:=hc);(fail_if_success have:false=c:=hc);cases c)|(refine xc_if rfl (fun hc=>?_) (fun hc=>?_))|(refine xc_cond rfl (fun hc=>?_) (fun hc=>?_)))
    have hR : ∀ {w'' : World} {o : Obj}, St w D0 [(b7, boolO (foldT q t none).isSome, false), (b6, itO (valO (foldT q t none)), false), (b4, o, false)] w'' → True = True → Hold [(b7, boolO (foldT q t none).isSome, false), (b6, itO (valO (foldT q t none)), false)] w'' := fun hs _ e he => hs.at_ e (by
      simp only [List.mem_cons, List.not_mem_nil, or_false] at he ⊢
      rcases he with he | he
      · exact .inl he
      · exact .inr (.inl he))
    refine drH [] [(b7, boolO (foldT q t none).isSome, false), (b6, itO (valO (foldT q t none)), false)] hs (k := ?_); intro hX w hs
    refine tk 0 hX (k := ?_)
    refine tk 1 hX (k := ?_)
    refine dt 2 hX (k := ?_)
    repeat' (first|refine vs (k:=?_)|refine ps (k:=?_)|((first|refine st hs (k:=?_)|refine stA hs (k:=?_));intro w hs)|((first|refine al hs (k:=?_)|refine bx hs (k:=?_)|refine bs hs (k:=?_));intro b w hz hs)|refine qRg ?_|refine Nx.h ?_|refine qBo ?_|refine qCt ?_|refine qCf ?_|((with_reducible apply xs_guard);exact rfl;exact rfl;intro c hc;(fail_if_success have:true=c:=hc);(fail_if_success have:false=c:=hc);cases c)|(refine xc_if rfl (fun hc=>?_) (fun hc=>?_))|(refine xc_cond rfl (fun hc=>?_) (fun hc=>?_)))
    refine dn (k := ?_)
    refine tk 3 hX (k := ?_)
    refine en (k := ?_)
    repeat' (first|refine vs (k:=?_)|refine ps (k:=?_)|((first|refine st hs (k:=?_)|refine stA hs (k:=?_));intro w hs)|((first|refine al hs (k:=?_)|refine bx hs (k:=?_)|refine bs hs (k:=?_));intro b w hz hs)|refine qRg ?_|refine Nx.h ?_|refine qBo ?_|refine qCt ?_|refine qCf ?_|((with_reducible apply xs_guard);exact rfl;exact rfl;intro c hc;(fail_if_success have:true=c:=hc);(fail_if_success have:false=c:=hc);cases c)|(refine xc_if rfl (fun hc=>?_) (fun hc=>?_))|(refine xc_cond rfl (fun hc=>?_) (fun hc=>?_)))
    first | refine rt (hq := ?_) | refine rt' (hq := ?_)
    have ho := hs.onlyF [b4] (by simp [k6, k7]) (by simp [D0])
    exact ⟨rfl, o.step ho (by simp [g4])⟩
end Go.Proofs.YtegoaabjccignaaGreatDoorX.IB

namespace Go.Proofs.YtegoaabjccignaaGreatDoorX
open Go Go.RowKit
attribute [local irreducible] XS XC XA thenE blockE retE loopE loopS cutB cutN doneE SE
theorem divV_7 : divV (-7) 2 = .tuple #[wv (-4), .int .u64 1, .bool true] := by kernel_rfl
theorem tell_64 : tellV (9223372036854775808 * 2) = .tuple #[wv 18446744073709551616, .bool true] := by kernel_rfl
set_option maxHeartbeats 400000 in
theorem awake1_ret (w0 : World) : Ret Tryz.prog 226 #[] w0 fun v w' => v = .bool true ∧ Only [] w0 w' := by
  have hs := St.nil w0
  refine ret_of_xc Tryz.func226 (by kernel_rfl) rfl Tryz.ntmps226 rfl rfl rfl ?_
  repeat' (first|refine vs (k:=?_)|refine ps (k:=?_)|((first|refine st hs (k:=?_)|refine stA hs (k:=?_));intro w hs)|((first|refine al hs (k:=?_)|refine bx hs (k:=?_)|refine bs hs (k:=?_));intro b w hz hs)|refine qRg ?_|refine Nx.h ?_|refine qBo ?_|refine qCt ?_|refine qCf ?_|((with_reducible apply xs_guard);exact rfl;exact rfl;intro c hc;(fail_if_success have:true=c:=hc);(fail_if_success have:false=c:=hc);cases c)|(refine xc_if rfl (fun hc=>?_) (fun hc=>?_))|(refine xc_cond rfl (fun hc=>?_) (fun hc=>?_)))
  (with_reducible apply xs_call); exact rfl; exact rfl; exact of_ret (-7) (by decide) (by decide) _
  rintro v w' ⟨rfl, ho⟩; replace hs := hs.call0 ho
  repeat' (first|refine vs (k:=?_)|refine ps (k:=?_)|((first|refine st hs (k:=?_)|refine stA hs (k:=?_));intro w hs)|((first|refine al hs (k:=?_)|refine bx hs (k:=?_)|refine bs hs (k:=?_));intro b w hz hs)|refine qRg ?_|refine Nx.h ?_|refine qBo ?_|refine qCt ?_|refine qCf ?_|((with_reducible apply xs_guard);exact rfl;exact rfl;intro c hc;(fail_if_success have:true=c:=hc);(fail_if_success have:false=c:=hc);cases c)|(refine xc_if rfl (fun hc=>?_) (fun hc=>?_))|(refine xc_cond rfl (fun hc=>?_) (fun hc=>?_)))
  (with_reducible apply xs_call); exact rfl; exact rfl; exact div_ret (-7) 2 (by decide) (by decide) (by decide) _
  rintro v w' ⟨rfl, ho⟩; replace hs := hs.call0 ho
  rw [divV_7]
  repeat' (first|refine vs (k:=?_)|refine ps (k:=?_)|((first|refine st hs (k:=?_)|refine stA hs (k:=?_));intro w hs)|((first|refine al hs (k:=?_)|refine bx hs (k:=?_)|refine bs hs (k:=?_));intro b w hz hs)|refine qRg ?_|refine Nx.h ?_|refine qBo ?_|refine qCt ?_|refine qCf ?_|((with_reducible apply xs_guard);exact rfl;exact rfl;intro c hc;(fail_if_success have:true=c:=hc);(fail_if_success have:false=c:=hc);cases c)|(refine xc_if rfl (fun hc=>?_) (fun hc=>?_))|(refine xc_cond rfl (fun hc=>?_) (fun hc=>?_)))
  (with_reducible apply xs_call); exact rfl; exact rfl; exact ofU_ret 9223372036854775808 (by decide) (by decide) _
  rintro v w' ⟨rfl, ho⟩; replace hs := hs.call0 ho
  repeat' (first|refine vs (k:=?_)|refine ps (k:=?_)|((first|refine st hs (k:=?_)|refine stA hs (k:=?_));intro w hs)|((first|refine al hs (k:=?_)|refine bx hs (k:=?_)|refine bs hs (k:=?_));intro b w hz hs)|refine qRg ?_|refine Nx.h ?_|refine qBo ?_|refine qCt ?_|refine qCf ?_|((with_reducible apply xs_guard);exact rfl;exact rfl;intro c hc;(fail_if_success have:true=c:=hc);(fail_if_success have:false=c:=hc);cases c)|(refine xc_if rfl (fun hc=>?_) (fun hc=>?_))|(refine xc_cond rfl (fun hc=>?_) (fun hc=>?_)))
  (with_reducible apply xs_call); exact rfl; exact rfl; exact mul_ret 9223372036854775808 2 (by decide) (by decide) (by decide) _
  rintro v w' ⟨rfl, ho⟩; replace hs := hs.call0 ho
  rw [tell_64]
  repeat' (first|refine vs (k:=?_)|refine ps (k:=?_)|((first|refine st hs (k:=?_)|refine stA hs (k:=?_));intro w hs)|((first|refine al hs (k:=?_)|refine bx hs (k:=?_)|refine bs hs (k:=?_));intro b w hz hs)|refine qRg ?_|refine Nx.h ?_|refine qBo ?_|refine qCt ?_|refine qCf ?_|((with_reducible apply xs_guard);exact rfl;exact rfl;intro c hc;(fail_if_success have:true=c:=hc);(fail_if_success have:false=c:=hc);cases c)|(refine xc_if rfl (fun hc=>?_) (fun hc=>?_))|(refine xc_cond rfl (fun hc=>?_) (fun hc=>?_)))
  refine dr [] hs (k := ?_); intro hX w hs
  refine tk 0 hX (k := ?_)
  refine tk 1 hX (k := ?_)
  refine tk 2 hX (k := ?_)
  refine tk 3 hX (k := ?_)
  refine tk 4 hX (k := ?_)
  refine tk 5 hX (k := ?_)
  refine dt 6 hX (k := ?_)
  (with_reducible apply xs_call); exact rfl; exact rfl; exact of_ret (-4) (by decide) (by decide) _
  rintro v w' ⟨rfl, ho⟩; replace hs := hs.call0 ho
  repeat' (first|refine vs (k:=?_)|refine ps (k:=?_)|((first|refine st hs (k:=?_)|refine stA hs (k:=?_));intro w hs)|((first|refine al hs (k:=?_)|refine bx hs (k:=?_)|refine bs hs (k:=?_));intro b w hz hs)|refine qRg ?_|refine Nx.h ?_|refine qBo ?_|refine qCt ?_|refine qCf ?_|((with_reducible apply xs_guard);exact rfl;exact rfl;intro c hc;(fail_if_success have:true=c:=hc);(fail_if_success have:false=c:=hc);cases c)|(refine xc_if rfl (fun hc=>?_) (fun hc=>?_))|(refine xc_cond rfl (fun hc=>?_) (fun hc=>?_)))
  refine dn (k := ?_)
  refine tk 7 hX (k := ?_)
  refine tk 8 hX (k := ?_)
  refine tk 9 hX (k := ?_)
  refine tk 10 hX (k := ?_)
  refine tk 11 hX (k := ?_)
  refine tk 12 hX (k := ?_)
  refine tk 13 hX (k := ?_)
  refine tk 14 hX (k := ?_)
  refine tk 15 hX (k := ?_)
  refine tk 16 hX (k := ?_)
  refine tk 17 hX (k := ?_)
  refine tk 18 hX (k := ?_)
  refine en (k := ?_)
  repeat' (first|refine vs (k:=?_)|refine ps (k:=?_)|((first|refine st hs (k:=?_)|refine stA hs (k:=?_));intro w hs)|((first|refine al hs (k:=?_)|refine bx hs (k:=?_)|refine bs hs (k:=?_));intro b w hz hs)|refine qRg ?_|refine Nx.h ?_|refine qBo ?_|refine qCt ?_|refine qCf ?_|((with_reducible apply xs_guard);exact rfl;exact rfl;intro c hc;(fail_if_success have:true=c:=hc);(fail_if_success have:false=c:=hc);cases c)|(refine xc_if rfl (fun hc=>?_) (fun hc=>?_))|(refine xc_cond rfl (fun hc=>?_) (fun hc=>?_)))
  first | refine rt (hq := ?_) | refine rt' (hq := ?_)
  exact ⟨rfl, hs.only0 rfl⟩
theorem tellV_cases (s : Int) : (InW s ∧ tellV s = .tuple #[wv s, .bool true]) ∨ (¬ InW s ∧ tellV s = .tuple #[wv 0, .bool false]) := by
  unfold tellV
  by_cases h : InW s
  · rw [if_pos h]; exact .inl ⟨h, rfl⟩
  · rw [if_neg h]; exact .inr ⟨h, rfl⟩
theorem cmp_anti (x y : Int) : (cmpI x y != IntKind.i64.wrap (0 - cmpI y x)) = false := by
  unfold cmpI
  simp only [wrap_i64]
  repeat' split
  all_goals first | rfl | omega
theorem cmp_self (x : Int) : cmpI x x = 0 := by unfold cmpI; simp
theorem cmp_pos {x y : Int} : 0 < cmpI x y ↔ y < x := by unfold cmpI; repeat' split <;> omega
theorem cmp_zero {x y : Int} : cmpI x y = 0 ↔ x = y := by unfold cmpI; repeat' split <;> omega
theorem cmp_neg {x y : Int} : cmpI x y < 0 ↔ x < y := by unfold cmpI; repeat' split <;> omega
theorem eqW (x y : Int) : (cellEq (.int .i64 (x / 18446744073709551616)) (.int .i64 (y / 18446744073709551616)) && cellEq (.int .u64 (x % 18446744073709551616)) (.int .u64 (y % 18446744073709551616))) = decide (x = y) := by
  show ((x / 18446744073709551616 == y / 18446744073709551616) && (x % 18446744073709551616 == y % 18446744073709551616)) = _
  by_cases h : x = y
  · subst h; simp
  · rw [decide_eq_false h]
    cases h1 : (x / 18446744073709551616 == y / 18446744073709551616)
    · rfl
    · cases h2 : (x % 18446744073709551616 == y % 18446744073709551616)
      · rfl
      · simp only [beq_iff_eq] at h1 h2
        omega
theorem cmp_beq (x y : Int) : (cmpI x y == 0) = decide (x = y) := by
  by_cases h : x = y
  · subst h; rw [cmp_self]; simp
  · rw [decide_eq_false h]
    cases h1 : (cmpI x y == 0)
    · rfl
    · simp only [beq_iff_eq] at h1
      exact absurd (cmp_zero.1 h1) h
end Go.Proofs.YtegoaabjccignaaGreatDoorX

namespace Go.Proofs.YtegoaabjccignaaGreatDoorX
open Go Go.RowKit
attribute [local irreducible] XS XC XA thenE blockE retE loopE loopS cutB cutN doneE SE
theorem step_ret (a n d r : Int) (ha : U64 a) (hn : U64 n) (hd : U64 d) (hr : 0 ≤ r) (hrd : r < d) (hp : a * n + r < 18446744073709551616) (hp0 : 0 ≤ a * n) (w0 : World) :
    Ret Tryz.prog 223 #[.int .u64 a, .int .u64 n, .int .u64 d, .int .u64 r] w0 fun v w' => v = .tuple #[.int .u64 ((a * n + r) / d), .int .u64 ((a * n + r) % d), .bool true] ∧ Only [] w0 w' := by
  have hs := St.nil w0
  obtain ⟨ha0, ha1⟩ := ha
  obtain ⟨hn0, hn1⟩ := hn
  obtain ⟨hd0, hd1⟩ := hd
  have e1 : a * n / 18446744073709551616 = 0 := by omega
  have e2 : a * n % 18446744073709551616 = a * n := by omega
  have e3 : (a * n + r + 0) / 18446744073709551616 = 0 := by omega
  have e4 : (a * n + r + 0) % 18446744073709551616 = a * n + r := by omega
  refine ret_of_xc Tryz.func223 (by kernel_rfl) rfl Tryz.ntmps223 rfl rfl rfl ?_
  repeat' (first|refine vs (k:=?_)|refine ps (k:=?_)|((first|refine st hs (k:=?_)|refine stA hs (k:=?_));intro w hs)|((first|refine al hs (k:=?_)|refine bx hs (k:=?_)|refine bs hs (k:=?_));intro b w hz hs)|refine qRg ?_|refine Nx.h ?_|refine qBo ?_|refine qCt ?_|refine qCf ?_|((with_reducible apply xs_guard);exact rfl;exact rfl;intro c hc;(fail_if_success have:true=c:=hc);(fail_if_success have:false=c:=hc);cases c)|(refine xc_if rfl (fun hc=>?_) (fun hc=>?_))|(refine xc_cond rfl (fun hc=>?_) (fun hc=>?_)))
  · omega
  · (with_reducible apply xs_call); exact rfl; exact rfl; exact mul64_ret a n ha0 ha1 hn0 hn1 _
    rw [e1, e2]
    rintro v w' ⟨rfl, ho⟩; replace hs := hs.call0 ho; repeat' (first|refine vs (k:=?_)|refine ps (k:=?_)|((first|refine st hs (k:=?_)|refine stA hs (k:=?_));intro w hs)|((first|refine al hs (k:=?_)|refine bx hs (k:=?_)|refine bs hs (k:=?_));intro b w hz hs)|refine qRg ?_|refine Nx.h ?_|refine qBo ?_|refine qCt ?_|refine qCf ?_|((with_reducible apply xs_guard);exact rfl;exact rfl;intro c hc;(fail_if_success have:true=c:=hc);(fail_if_success have:false=c:=hc);cases c)|(refine xc_if rfl (fun hc=>?_) (fun hc=>?_))|(refine xc_cond rfl (fun hc=>?_) (fun hc=>?_)))
    (with_reducible apply xs_call); exact rfl; exact rfl; exact add64_ret (a * n) r 0 hp0 hr (by decide) (by decide) _
    rw [e3, e4]
    rintro v w' ⟨rfl, rfl⟩
    repeat' (first|refine vs (k:=?_)|refine ps (k:=?_)|((first|refine st hs (k:=?_)|refine stA hs (k:=?_));intro w hs)|((first|refine al hs (k:=?_)|refine bx hs (k:=?_)|refine bs hs (k:=?_));intro b w hz hs)|refine qRg ?_|refine Nx.h ?_|refine qBo ?_|refine qCt ?_|refine qCf ?_|((with_reducible apply xs_guard);exact rfl;exact rfl;intro c hc;(fail_if_success have:true=c:=hc);(fail_if_success have:false=c:=hc);cases c)|(refine xc_if rfl (fun hc=>?_) (fun hc=>?_))|(refine xc_cond rfl (fun hc=>?_) (fun hc=>?_)))
    · simp only [wrap_u64] at hc
      omega
    · (with_reducible apply xs_call); exact rfl; exact rfl; exact div64_ret 0 (a * n + r) d (by decide) (by omega) hd1 (by omega) hp _
      rintro v w' ⟨rfl, ho⟩; replace hs := hs.call0 ho; repeat' (first|refine vs (k:=?_)|refine ps (k:=?_)|((first|refine st hs (k:=?_)|refine stA hs (k:=?_));intro w hs)|((first|refine al hs (k:=?_)|refine bx hs (k:=?_)|refine bs hs (k:=?_));intro b w hz hs)|refine qRg ?_|refine Nx.h ?_|refine qBo ?_|refine qCt ?_|refine qCf ?_|((with_reducible apply xs_guard);exact rfl;exact rfl;intro c hc;(fail_if_success have:true=c:=hc);(fail_if_success have:false=c:=hc);cases c)|(refine xc_if rfl (fun hc=>?_) (fun hc=>?_))|(refine xc_cond rfl (fun hc=>?_) (fun hc=>?_)))
      first | refine rt (hq := ?_) | refine rt' (hq := ?_)
      refine ⟨?_, hs.only0 rfl⟩
      rw [Int.zero_mul, Int.zero_add]
      rfl
theorem U64_lt {x : Int} (h : U64 x) : 0 ≤ x ∧ x < 18446744073709551616 := h
set_option maxHeartbeats 1000000 in
theorem steps_ret (sl : Value) (w0 : World) (hL : LsAt w0 28 1 sl [[.int .u64 1], [.int .u64 1], [.int .u64 1]]) :
    Ret Tryz.prog 224 #[.int .u64 1, .int .u64 3, .int .u64 0, sl] w0 fun v w' => v = .tuple #[.int .u64 1, .int .u64 0, .bool true] ∧ Only [] w0 w' := by
  obtain ⟨ad, cap, rfl, hD⟩ := hL
  obtain ⟨b, off, cs, fz, rfl, _, hb, hcs⟩ := hD (by simp)
  have hs := St.nil w0
  refine ret_of_xc Tryz.func224 (by kernel_rfl) rfl Tryz.ntmps224 rfl rfl rfl ?_
  repeat' (first|refine vs (k:=?_)|refine ps (k:=?_)|((first|refine st hs (k:=?_)|refine stA hs (k:=?_));intro w hs)|((first|refine al hs (k:=?_)|refine bx hs (k:=?_)|refine bs hs (k:=?_));intro b w hz hs)|refine qRg ?_|refine Nx.h ?_|refine qBo ?_|refine qCt ?_|refine qCf ?_|((with_reducible apply xs_guard);exact rfl;exact rfl;intro c hc;(fail_if_success have:true=c:=hc);(fail_if_success have:false=c:=hc);cases c)|(refine xc_if rfl (fun hc=>?_) (fun hc=>?_))|(refine xc_cond rfl (fun hc=>?_) (fun hc=>?_)))
  refine xc_cutB (fun (_ : Unit) => [(8, .int .u64 1), (2, .int .u64 0)]) (fun _ w => St w0 D0 [] w) ?_ ?_
  · refine xc_loopS (fun (i : Nat) => [(0, .int .u64 1), (1, .int .u64 3), (2, .int .u64 ((i % 3 : Nat) : Int)), (8, .int .u64 ((i / 3 : Nat) : Int)), (21, .slice (some ⟨b, off, none⟩) 3 cap), (22, .int .i64 (3 : Nat)), (23, .int .i64 (i : Nat))])
      (fun i w => i ≤ 3 ∧ St w0 D0 [] w) (fun i => 3 - i) 0 (by (repeat (first | exact agree_nil | (apply agree_cons; exact rfl)))) ⟨Nat.zero_le _, hs⟩ fun i env w ⟨hi, hs⟩ => ?_
    repeat' (first|refine vs (k:=?_)|refine ps (k:=?_)|((first|refine st hs (k:=?_)|refine stA hs (k:=?_));intro w hs)|((first|refine al hs (k:=?_)|refine bx hs (k:=?_)|refine bs hs (k:=?_));intro b w hz hs)|refine qRg ?_|refine Nx.h ?_|refine qBo ?_|refine qCt ?_|refine qCf ?_|((with_reducible apply xs_guard);exact rfl;exact rfl;intro c hc;(fail_if_success have:true=c:=hc);(fail_if_success have:false=c:=hc);cases c)|(refine xc_if rfl (fun hc=>?_) (fun hc=>?_))|(refine xc_cond rfl (fun hc=>?_) (fun hc=>?_)))
    · have hlt : i < 3 := by omega
      have hpk : Pick cs (off + i * 1) 1 [.int .u64 1] := by
        have : i = 0 ∨ i = 1 ∨ i = 2 := by omega
        rcases this with rfl | rfl | rfl <;> exact hcs _ _ rfl
      have ei := nx64 (m := 3) hlt (by omega)
      refine ix (h0 := (by omega)) (h1 := (by omega)) (k := ?_)
      refine lh ((hs.only0 rfl).block hb (by simp)) (by cases hpk; assumption) (k := ?_)
      repeat' (first|refine vs (k:=?_)|refine ps (k:=?_)|((first|refine st hs (k:=?_)|refine stA hs (k:=?_));intro w hs)|((first|refine al hs (k:=?_)|refine bx hs (k:=?_)|refine bs hs (k:=?_));intro b w hz hs)|refine qRg ?_|refine Nx.h ?_|refine qBo ?_|refine qCt ?_|refine qCf ?_|((with_reducible apply xs_guard);exact rfl;exact rfl;intro c hc;(fail_if_success have:true=c:=hc);(fail_if_success have:false=c:=hc);cases c)|(refine xc_if rfl (fun hc=>?_) (fun hc=>?_))|(refine xc_cond rfl (fun hc=>?_) (fun hc=>?_)))
      (with_reducible apply xs_call); exact rfl; exact rfl; exact step_ret 1 1 3 ((i % 3 : Nat) : Int) (by decide) (by decide) (by decide) (by omega) (by omega) (by omega) (by decide) _
      rintro v w' ⟨rfl, ho⟩; replace hs := hs.call0 ho; repeat' (first|refine vs (k:=?_)|refine ps (k:=?_)|((first|refine st hs (k:=?_)|refine stA hs (k:=?_));intro w hs)|((first|refine al hs (k:=?_)|refine bx hs (k:=?_)|refine bs hs (k:=?_));intro b w hz hs)|refine qRg ?_|refine Nx.h ?_|refine qBo ?_|refine qCt ?_|refine qCf ?_|((with_reducible apply xs_guard);exact rfl;exact rfl;intro c hc;(fail_if_success have:true=c:=hc);(fail_if_success have:false=c:=hc);cases c)|(refine xc_if rfl (fun hc=>?_) (fun hc=>?_))|(refine xc_cond rfl (fun hc=>?_) (fun hc=>?_)))
      (with_reducible apply xs_call); exact rfl; exact rfl; exact add64_ret ((i / 3 : Nat) : Int) ((1 * 1 + ((i % 3 : Nat) : Int)) / 3) 0 (by omega) (by omega) (by decide) (by decide) _
      rintro v w' ⟨rfl, rfl⟩
      repeat' (first|refine vs (k:=?_)|refine ps (k:=?_)|((first|refine st hs (k:=?_)|refine stA hs (k:=?_));intro w hs)|((first|refine al hs (k:=?_)|refine bx hs (k:=?_)|refine bs hs (k:=?_));intro b w hz hs)|refine qRg ?_|refine Nx.h ?_|refine qBo ?_|refine qCt ?_|refine qCf ?_|((with_reducible apply xs_guard);exact rfl;exact rfl;intro c hc;(fail_if_success have:true=c:=hc);(fail_if_success have:false=c:=hc);cases c)|(refine xc_if rfl (fun hc=>?_) (fun hc=>?_))|(refine xc_cond rfl (fun hc=>?_) (fun hc=>?_)))
      · simp only [bne_iff_ne, ne_eq] at hc
        omega
      · have e5 : (((i / 3 : Nat) : Int) + (1 * 1 + ((i % 3 : Nat) : Int)) / 3 + 0) % 18446744073709551616 = (((i + 1) / 3 : Nat) : Int) := by omega
        have e6 : (1 * 1 + ((i % 3 : Nat) : Int)) % 3 = (((i + 1) % 3 : Nat) : Int) := by omega
        exact loopS_next (i + 1) (by omega) (by (repeat (first | exact agree_nil | (apply agree_cons; first | exact rfl | exact congrArg (Value.int .i64) ei | exact congrArg (Value.int .u64) e5 | exact congrArg (Value.int .u64) e6)))) ⟨by omega, hs⟩
    · have e : i = 3 := by omega
      subst e
      exact cutB_exit () (by (repeat (first | exact agree_nil | (apply agree_cons; exact rfl)))) hs
  · rintro _ env w hs
    repeat' (first|refine vs (k:=?_)|refine ps (k:=?_)|((first|refine st hs (k:=?_)|refine stA hs (k:=?_));intro w hs)|((first|refine al hs (k:=?_)|refine bx hs (k:=?_)|refine bs hs (k:=?_));intro b w hz hs)|refine qRg ?_|refine Nx.h ?_|refine qBo ?_|refine qCt ?_|refine qCf ?_|((with_reducible apply xs_guard);exact rfl;exact rfl;intro c hc;(fail_if_success have:true=c:=hc);(fail_if_success have:false=c:=hc);cases c)|(refine xc_if rfl (fun hc=>?_) (fun hc=>?_))|(refine xc_cond rfl (fun hc=>?_) (fun hc=>?_)))
    first | refine rt (hq := ?_) | refine rt' (hq := ?_)
    exact ⟨rfl, hs.only0 rfl⟩
theorem Awake1_ret (w0 : World) : Ret Tryz.prog 225 #[] w0 fun v w' => v = .bool true ∧ Only [] w0 w' := by
  have hs := St.nil w0
  refine ret_of_xc Tryz.func225 (by kernel_rfl) rfl Tryz.ntmps225 rfl rfl rfl ?_
  repeat' (first|refine vs (k:=?_)|refine ps (k:=?_)|((first|refine st hs (k:=?_)|refine stA hs (k:=?_));intro w hs)|((first|refine al hs (k:=?_)|refine bx hs (k:=?_)|refine bs hs (k:=?_));intro b w hz hs)|refine qRg ?_|refine Nx.h ?_|refine qBo ?_|refine qCt ?_|refine qCf ?_|((with_reducible apply xs_guard);exact rfl;exact rfl;intro c hc;(fail_if_success have:true=c:=hc);(fail_if_success have:false=c:=hc);cases c)|(refine xc_if rfl (fun hc=>?_) (fun hc=>?_))|(refine xc_cond rfl (fun hc=>?_) (fun hc=>?_)))
  (with_reducible apply xs_call); exact rfl; exact rfl; exact awake1_ret _
  rintro v w' ⟨rfl, ho⟩; replace hs := hs.call0 ho; repeat' (first|refine vs (k:=?_)|refine ps (k:=?_)|((first|refine st hs (k:=?_)|refine stA hs (k:=?_));intro w hs)|((first|refine al hs (k:=?_)|refine bx hs (k:=?_)|refine bs hs (k:=?_));intro b w hz hs)|refine qRg ?_|refine Nx.h ?_|refine qBo ?_|refine qCt ?_|refine qCf ?_|((with_reducible apply xs_guard);exact rfl;exact rfl;intro c hc;(fail_if_success have:true=c:=hc);(fail_if_success have:false=c:=hc);cases c)|(refine xc_if rfl (fun hc=>?_) (fun hc=>?_))|(refine xc_cond rfl (fun hc=>?_) (fun hc=>?_)))
  first | refine rt (hq := ?_) | refine rt' (hq := ?_)
  exact ⟨rfl, hs.only0 rfl⟩
theorem awake2_ret (w0 : World) : Ret Tryz.prog 216 #[] w0 fun v w' => v = .bool true ∧ Only [] w0 w' := by
  have hs := St.nil w0
  refine ret_of_xc Tryz.func216 (by kernel_rfl) rfl Tryz.ntmps216 rfl rfl rfl ?_
  repeat' (first|refine vs (k:=?_)|refine ps (k:=?_)|((first|refine st hs (k:=?_)|refine stA hs (k:=?_));intro w hs)|((first|refine al hs (k:=?_)|refine bx hs (k:=?_)|refine bs hs (k:=?_));intro b w hz hs)|refine qRg ?_|refine Nx.h ?_|refine qBo ?_|refine qCt ?_|refine qCf ?_|((with_reducible apply xs_guard);exact rfl;exact rfl;intro c hc;(fail_if_success have:true=c:=hc);(fail_if_success have:false=c:=hc);cases c)|(refine xc_if rfl (fun hc=>?_) (fun hc=>?_))|(refine xc_cond rfl (fun hc=>?_) (fun hc=>?_)))
  (with_reducible apply xs_call); exact rfl; exact rfl; exact step_ret 3 5 4 1 (by decide) (by decide) (by decide) (by decide) (by decide) (by decide) (by decide) _
  rintro v w' ⟨rfl, ho⟩; replace hs := hs.call0 ho; repeat' (first|refine vs (k:=?_)|refine ps (k:=?_)|((first|refine st hs (k:=?_)|refine stA hs (k:=?_));intro w hs)|((first|refine al hs (k:=?_)|refine bx hs (k:=?_)|refine bs hs (k:=?_));intro b w hz hs)|refine qRg ?_|refine Nx.h ?_|refine qBo ?_|refine qCt ?_|refine qCf ?_|((with_reducible apply xs_guard);exact rfl;exact rfl;intro c hc;(fail_if_success have:true=c:=hc);(fail_if_success have:false=c:=hc);cases c)|(refine xc_if rfl (fun hc=>?_) (fun hc=>?_))|(refine xc_cond rfl (fun hc=>?_) (fun hc=>?_)))
  have hb := hs.get At.head
  (with_reducible apply xs_call); exact rfl; exact rfl; exact steps_ret _ _ ⟨some ⟨_, 0, none⟩, 3, rfl, fun _ => ⟨_, 0, _, (0, 0), rfl, by decide, hb, fun i x h => (by
    have : i = 0 ∨ i = 1 ∨ i = 2 := by
      rcases Nat.lt_or_ge i 3 with h' | h'
      · omega
      · rw [List.getElem?_eq_none (by simp; omega)] at h; cases h
    rcases this with rfl | rfl | rfl <;> (cases h; exact .cons rfl .nil))⟩⟩
  rintro v w' ⟨rfl, ho⟩; replace hs := hs.call0 ho; repeat' (first|refine vs (k:=?_)|refine ps (k:=?_)|((first|refine st hs (k:=?_)|refine stA hs (k:=?_));intro w hs)|((first|refine al hs (k:=?_)|refine bx hs (k:=?_)|refine bs hs (k:=?_));intro b w hz hs)|refine qRg ?_|refine Nx.h ?_|refine qBo ?_|refine qCt ?_|refine qCf ?_|((with_reducible apply xs_guard);exact rfl;exact rfl;intro c hc;(fail_if_success have:true=c:=hc);(fail_if_success have:false=c:=hc);cases c)|(refine xc_if rfl (fun hc=>?_) (fun hc=>?_))|(refine xc_cond rfl (fun hc=>?_) (fun hc=>?_)))
  (with_reducible apply xs_call); exact rfl; exact rfl; exact Awake1_ret _
  rintro v w' ⟨rfl, ho⟩; replace hs := hs.call0 ho; repeat' (first|refine vs (k:=?_)|refine ps (k:=?_)|((first|refine st hs (k:=?_)|refine stA hs (k:=?_));intro w hs)|((first|refine al hs (k:=?_)|refine bx hs (k:=?_)|refine bs hs (k:=?_));intro b w hz hs)|refine qRg ?_|refine Nx.h ?_|refine qBo ?_|refine qCt ?_|refine qCf ?_|((with_reducible apply xs_guard);exact rfl;exact rfl;intro c hc;(fail_if_success have:true=c:=hc);(fail_if_success have:false=c:=hc);cases c)|(refine xc_if rfl (fun hc=>?_) (fun hc=>?_))|(refine xc_cond rfl (fun hc=>?_) (fun hc=>?_)))
  first | refine rt (hq := ?_) | refine rt' (hq := ?_)
  exact ⟨rfl, hs.only0 rfl⟩
theorem Awake2_ret (w0 : World) : Ret Tryz.prog 213 #[] w0 fun v w' => v = .bool true ∧ Only [] w0 w' := by
  have hs := St.nil w0
  refine ret_of_xc Tryz.func213 (by kernel_rfl) rfl Tryz.ntmps213 rfl rfl rfl ?_
  repeat' (first|refine vs (k:=?_)|refine ps (k:=?_)|((first|refine st hs (k:=?_)|refine stA hs (k:=?_));intro w hs)|((first|refine al hs (k:=?_)|refine bx hs (k:=?_)|refine bs hs (k:=?_));intro b w hz hs)|refine qRg ?_|refine Nx.h ?_|refine qBo ?_|refine qCt ?_|refine qCf ?_|((with_reducible apply xs_guard);exact rfl;exact rfl;intro c hc;(fail_if_success have:true=c:=hc);(fail_if_success have:false=c:=hc);cases c)|(refine xc_if rfl (fun hc=>?_) (fun hc=>?_))|(refine xc_cond rfl (fun hc=>?_) (fun hc=>?_)))
  (with_reducible apply xs_call); exact rfl; exact rfl; exact awake2_ret _
  rintro v w' ⟨rfl, ho⟩; replace hs := hs.call0 ho; repeat' (first|refine vs (k:=?_)|refine ps (k:=?_)|((first|refine st hs (k:=?_)|refine stA hs (k:=?_));intro w hs)|((first|refine al hs (k:=?_)|refine bx hs (k:=?_)|refine bs hs (k:=?_));intro b w hz hs)|refine qRg ?_|refine Nx.h ?_|refine qBo ?_|refine qCt ?_|refine qCf ?_|((with_reducible apply xs_guard);exact rfl;exact rfl;intro c hc;(fail_if_success have:true=c:=hc);(fail_if_success have:false=c:=hc);cases c)|(refine xc_if rfl (fun hc=>?_) (fun hc=>?_))|(refine xc_cond rfl (fun hc=>?_) (fun hc=>?_)))
  first | refine rt (hq := ?_) | refine rt' (hq := ?_)
  exact ⟨rfl, hs.only0 rfl⟩
theorem awake3_ret (w0 : World) : Ret Tryz.prog 217 #[] w0 fun v w' => v = .bool true ∧ Only [] w0 w' := by
  have hs := St.nil w0
  refine ret_of_xc Tryz.func217 (by kernel_rfl) rfl Tryz.ntmps217 rfl rfl rfl ?_
  repeat' (first|refine vs (k:=?_)|refine ps (k:=?_)|((first|refine st hs (k:=?_)|refine stA hs (k:=?_));intro w hs)|((first|refine al hs (k:=?_)|refine bx hs (k:=?_)|refine bs hs (k:=?_));intro b w hz hs)|refine qRg ?_|refine Nx.h ?_|refine qBo ?_|refine qCt ?_|refine qCf ?_|((with_reducible apply xs_guard);exact rfl;exact rfl;intro c hc;(fail_if_success have:true=c:=hc);(fail_if_success have:false=c:=hc);cases c)|(refine xc_if rfl (fun hc=>?_) (fun hc=>?_))|(refine xc_cond rfl (fun hc=>?_) (fun hc=>?_)))
  (with_reducible apply xs_call); exact rfl; exact rfl; exact Awake1_ret _
  rintro v w' ⟨rfl, ho⟩; replace hs := hs.call0 ho; repeat' (first|refine vs (k:=?_)|refine ps (k:=?_)|((first|refine st hs (k:=?_)|refine stA hs (k:=?_));intro w hs)|((first|refine al hs (k:=?_)|refine bx hs (k:=?_)|refine bs hs (k:=?_));intro b w hz hs)|refine qRg ?_|refine Nx.h ?_|refine qBo ?_|refine qCt ?_|refine qCf ?_|((with_reducible apply xs_guard);exact rfl;exact rfl;intro c hc;(fail_if_success have:true=c:=hc);(fail_if_success have:false=c:=hc);cases c)|(refine xc_if rfl (fun hc=>?_) (fun hc=>?_))|(refine xc_cond rfl (fun hc=>?_) (fun hc=>?_)))
  (with_reducible apply xs_call); exact rfl; exact rfl; exact since_ret _ _ _
  rw [show sn 2 18446744073709551615 = 3 from by decide]
  rintro v w' ⟨rfl, ho⟩; replace hs := hs.call0 ho; repeat' (first|refine vs (k:=?_)|refine ps (k:=?_)|((first|refine st hs (k:=?_)|refine stA hs (k:=?_));intro w hs)|((first|refine al hs (k:=?_)|refine bx hs (k:=?_)|refine bs hs (k:=?_));intro b w hz hs)|refine qRg ?_|refine Nx.h ?_|refine qBo ?_|refine qCt ?_|refine qCf ?_|((with_reducible apply xs_guard);exact rfl;exact rfl;intro c hc;(fail_if_success have:true=c:=hc);(fail_if_success have:false=c:=hc);cases c)|(refine xc_if rfl (fun hc=>?_) (fun hc=>?_))|(refine xc_cond rfl (fun hc=>?_) (fun hc=>?_)))
  first | refine rt (hq := ?_) | refine rt' (hq := ?_)
  exact ⟨rfl, hs.only0 rfl⟩
theorem Awake3_ret (w0 : World) : Ret Tryz.prog 214 #[] w0 fun v w' => v = .bool true ∧ Only [] w0 w' := by
  have hs := St.nil w0
  refine ret_of_xc Tryz.func214 (by kernel_rfl) rfl Tryz.ntmps214 rfl rfl rfl ?_
  repeat' (first|refine vs (k:=?_)|refine ps (k:=?_)|((first|refine st hs (k:=?_)|refine stA hs (k:=?_));intro w hs)|((first|refine al hs (k:=?_)|refine bx hs (k:=?_)|refine bs hs (k:=?_));intro b w hz hs)|refine qRg ?_|refine Nx.h ?_|refine qBo ?_|refine qCt ?_|refine qCf ?_|((with_reducible apply xs_guard);exact rfl;exact rfl;intro c hc;(fail_if_success have:true=c:=hc);(fail_if_success have:false=c:=hc);cases c)|(refine xc_if rfl (fun hc=>?_) (fun hc=>?_))|(refine xc_cond rfl (fun hc=>?_) (fun hc=>?_)))
  (with_reducible apply xs_call); exact rfl; exact rfl; exact awake3_ret _
  rintro v w' ⟨rfl, ho⟩; replace hs := hs.call0 ho; repeat' (first|refine vs (k:=?_)|refine ps (k:=?_)|((first|refine st hs (k:=?_)|refine stA hs (k:=?_));intro w hs)|((first|refine al hs (k:=?_)|refine bx hs (k:=?_)|refine bs hs (k:=?_));intro b w hz hs)|refine qRg ?_|refine Nx.h ?_|refine qBo ?_|refine qCt ?_|refine qCf ?_|((with_reducible apply xs_guard);exact rfl;exact rfl;intro c hc;(fail_if_success have:true=c:=hc);(fail_if_success have:false=c:=hc);cases c)|(refine xc_if rfl (fun hc=>?_) (fun hc=>?_))|(refine xc_cond rfl (fun hc=>?_) (fun hc=>?_)))
  first | refine rt (hq := ?_) | refine rt' (hq := ?_)
  exact ⟨rfl, hs.only0 rfl⟩
theorem awake4_ret (w0 : World) : Ret Tryz.prog 202 #[] w0 fun v w' => v = .bool true ∧ Only [] w0 w' := by
  have hs := St.nil w0
  refine ret_of_xc Tryz.func202 (by kernel_rfl) rfl Tryz.ntmps202 rfl rfl rfl ?_
  repeat' (first|refine vs (k:=?_)|refine ps (k:=?_)|((first|refine st hs (k:=?_)|refine stA hs (k:=?_));intro w hs)|((first|refine al hs (k:=?_)|refine bx hs (k:=?_)|refine bs hs (k:=?_));intro b w hz hs)|refine qRg ?_|refine Nx.h ?_|refine qBo ?_|refine qCt ?_|refine qCf ?_|((with_reducible apply xs_guard);exact rfl;exact rfl;intro c hc;(fail_if_success have:true=c:=hc);(fail_if_success have:false=c:=hc);cases c)|(refine xc_if rfl (fun hc=>?_) (fun hc=>?_))|(refine xc_cond rfl (fun hc=>?_) (fun hc=>?_)))
  (with_reducible apply xs_call); exact rfl; exact rfl; exact move_ret ⟨5, 0, 3⟩ 7 (by decide) (by decide) _
  rw [show movP ⟨5, 0, 3⟩ 7 = some ⟨7, 1, 3⟩ from by decide]
  rintro v w' ⟨rfl, ho⟩; replace hs := hs.call0 ho; repeat' (first|refine vs (k:=?_)|refine ps (k:=?_)|((first|refine st hs (k:=?_)|refine stA hs (k:=?_));intro w hs)|((first|refine al hs (k:=?_)|refine bx hs (k:=?_)|refine bs hs (k:=?_));intro b w hz hs)|refine qRg ?_|refine Nx.h ?_|refine qBo ?_|refine qCt ?_|refine qCf ?_|((with_reducible apply xs_guard);exact rfl;exact rfl;intro c hc;(fail_if_success have:true=c:=hc);(fail_if_success have:false=c:=hc);cases c)|(refine xc_if rfl (fun hc=>?_) (fun hc=>?_))|(refine xc_cond rfl (fun hc=>?_) (fun hc=>?_)))
  (with_reducible apply xs_call); exact rfl; exact rfl; exact Awake2_ret _
  rintro v w' ⟨rfl, ho⟩; replace hs := hs.call0 ho; repeat' (first|refine vs (k:=?_)|refine ps (k:=?_)|((first|refine st hs (k:=?_)|refine stA hs (k:=?_));intro w hs)|((first|refine al hs (k:=?_)|refine bx hs (k:=?_)|refine bs hs (k:=?_));intro b w hz hs)|refine qRg ?_|refine Nx.h ?_|refine qBo ?_|refine qCt ?_|refine qCf ?_|((with_reducible apply xs_guard);exact rfl;exact rfl;intro c hc;(fail_if_success have:true=c:=hc);(fail_if_success have:false=c:=hc);cases c)|(refine xc_if rfl (fun hc=>?_) (fun hc=>?_))|(refine xc_cond rfl (fun hc=>?_) (fun hc=>?_)))
  (with_reducible apply xs_call); exact rfl; exact rfl; exact Awake3_ret _
  rintro v w' ⟨rfl, ho⟩; replace hs := hs.call0 ho; repeat' (first|refine vs (k:=?_)|refine ps (k:=?_)|((first|refine st hs (k:=?_)|refine stA hs (k:=?_));intro w hs)|((first|refine al hs (k:=?_)|refine bx hs (k:=?_)|refine bs hs (k:=?_));intro b w hz hs)|refine qRg ?_|refine Nx.h ?_|refine qBo ?_|refine qCt ?_|refine qCf ?_|((with_reducible apply xs_guard);exact rfl;exact rfl;intro c hc;(fail_if_success have:true=c:=hc);(fail_if_success have:false=c:=hc);cases c)|(refine xc_if rfl (fun hc=>?_) (fun hc=>?_))|(refine xc_cond rfl (fun hc=>?_) (fun hc=>?_)))
  first | refine rt (hq := ?_) | refine rt' (hq := ?_)
  exact ⟨rfl, hs.only0 rfl⟩
theorem Awake4_ret (w0 : World) : Ret Tryz.prog 192 #[] w0 fun v w' => v = .bool true ∧ Only [] w0 w' := by
  have hs := St.nil w0
  refine ret_of_xc Tryz.func192 (by kernel_rfl) rfl Tryz.ntmps192 rfl rfl rfl ?_
  repeat' (first|refine vs (k:=?_)|refine ps (k:=?_)|((first|refine st hs (k:=?_)|refine stA hs (k:=?_));intro w hs)|((first|refine al hs (k:=?_)|refine bx hs (k:=?_)|refine bs hs (k:=?_));intro b w hz hs)|refine qRg ?_|refine Nx.h ?_|refine qBo ?_|refine qCt ?_|refine qCf ?_|((with_reducible apply xs_guard);exact rfl;exact rfl;intro c hc;(fail_if_success have:true=c:=hc);(fail_if_success have:false=c:=hc);cases c)|(refine xc_if rfl (fun hc=>?_) (fun hc=>?_))|(refine xc_cond rfl (fun hc=>?_) (fun hc=>?_)))
  (with_reducible apply xs_call); exact rfl; exact rfl; exact awake4_ret _
  rintro v w' ⟨rfl, ho⟩; replace hs := hs.call0 ho; repeat' (first|refine vs (k:=?_)|refine ps (k:=?_)|((first|refine st hs (k:=?_)|refine stA hs (k:=?_));intro w hs)|((first|refine al hs (k:=?_)|refine bx hs (k:=?_)|refine bs hs (k:=?_));intro b w hz hs)|refine qRg ?_|refine Nx.h ?_|refine qBo ?_|refine qCt ?_|refine qCf ?_|((with_reducible apply xs_guard);exact rfl;exact rfl;intro c hc;(fail_if_success have:true=c:=hc);(fail_if_success have:false=c:=hc);cases c)|(refine xc_if rfl (fun hc=>?_) (fun hc=>?_))|(refine xc_cond rfl (fun hc=>?_) (fun hc=>?_)))
  first | refine rt (hq := ?_) | refine rt' (hq := ?_)
  exact ⟨rfl, hs.only0 rfl⟩
set_option maxHeartbeats 1000000 in
theorem awake5_ret (w0 : World) : Ret Tryz.prog 186 #[] w0 fun v w' => v = .bool true ∧ Only [] w0 w' := by
  have hs := St.nil w0
  refine ret_of_xc Tryz.func186 (by kernel_rfl) rfl Tryz.ntmps186 rfl rfl rfl ?_
  repeat' (first|refine vs (k:=?_)|refine ps (k:=?_)|((first|refine st hs (k:=?_)|refine stA hs (k:=?_));intro w hs)|((first|refine al hs (k:=?_)|refine bx hs (k:=?_)|refine bs hs (k:=?_));intro b w hz hs)|refine qRg ?_|refine Nx.h ?_|refine qBo ?_|refine qCt ?_|refine qCf ?_|((with_reducible apply xs_guard);exact rfl;exact rfl;intro c hc;(fail_if_success have:true=c:=hc);(fail_if_success have:false=c:=hc);cases c)|(refine xc_if rfl (fun hc=>?_) (fun hc=>?_))|(refine xc_cond rfl (fun hc=>?_) (fun hc=>?_)))
  (with_reducible apply xs_call); exact rfl; exact rfl; exact Awake4_ret _
  rintro v w' ⟨rfl, ho⟩; replace hs := hs.call0 ho; repeat' (first|refine vs (k:=?_)|refine ps (k:=?_)|((first|refine st hs (k:=?_)|refine stA hs (k:=?_));intro w hs)|((first|refine al hs (k:=?_)|refine bx hs (k:=?_)|refine bs hs (k:=?_));intro b w hz hs)|refine qRg ?_|refine Nx.h ?_|refine qBo ?_|refine qCt ?_|refine qCf ?_|((with_reducible apply xs_guard);exact rfl;exact rfl;intro c hc;(fail_if_success have:true=c:=hc);(fail_if_success have:false=c:=hc);cases c)|(refine xc_if rfl (fun hc=>?_) (fun hc=>?_))|(refine xc_cond rfl (fun hc=>?_) (fun hc=>?_)))
  (with_reducible apply xs_call); exact rfl; exact rfl; exact due_ret ⟨⟨1, 0, 1⟩, 1, ⟨2, 0, 1⟩⟩ ⟨⟨1, 0, 1⟩, 2, ⟨2, 0, 1⟩⟩ (by decide) (by decide) _
  rw [show due ⟨⟨1, 0, 1⟩, 1, ⟨2, 0, 1⟩⟩ ⟨⟨1, 0, 1⟩, 2, ⟨2, 0, 1⟩⟩ = true from by decide]
  rintro v w' ⟨rfl, ho⟩; replace hs := hs.call0 ho; repeat' (first|refine vs (k:=?_)|refine ps (k:=?_)|((first|refine st hs (k:=?_)|refine stA hs (k:=?_));intro w hs)|((first|refine al hs (k:=?_)|refine bx hs (k:=?_)|refine bs hs (k:=?_));intro b w hz hs)|refine qRg ?_|refine Nx.h ?_|refine qBo ?_|refine qCt ?_|refine qCf ?_|((with_reducible apply xs_guard);exact rfl;exact rfl;intro c hc;(fail_if_success have:true=c:=hc);(fail_if_success have:false=c:=hc);cases c)|(refine xc_if rfl (fun hc=>?_) (fun hc=>?_))|(refine xc_cond rfl (fun hc=>?_) (fun hc=>?_)))
  (with_reducible apply xs_call); exact rfl; exact rfl; exact due_ret ⟨⟨1, 0, 1⟩, 2, ⟨2, 0, 1⟩⟩ ⟨⟨1, 0, 1⟩, 1, ⟨2, 0, 1⟩⟩ (by decide) (by decide) _
  rw [show due ⟨⟨1, 0, 1⟩, 2, ⟨2, 0, 1⟩⟩ ⟨⟨1, 0, 1⟩, 1, ⟨2, 0, 1⟩⟩ = false from by decide]
  rintro v w' ⟨rfl, ho⟩; replace hs := hs.call0 ho; repeat' (first|refine vs (k:=?_)|refine ps (k:=?_)|((first|refine st hs (k:=?_)|refine stA hs (k:=?_));intro w hs)|((first|refine al hs (k:=?_)|refine bx hs (k:=?_)|refine bs hs (k:=?_));intro b w hz hs)|refine qRg ?_|refine Nx.h ?_|refine qBo ?_|refine qCt ?_|refine qCf ?_|((with_reducible apply xs_guard);exact rfl;exact rfl;intro c hc;(fail_if_success have:true=c:=hc);(fail_if_success have:false=c:=hc);cases c)|(refine xc_if rfl (fun hc=>?_) (fun hc=>?_))|(refine xc_cond rfl (fun hc=>?_) (fun hc=>?_)))
  first | refine rt (hq := ?_) | refine rt' (hq := ?_)
  exact ⟨rfl, hs.only0 rfl⟩
theorem Awake5_ret (w0 : World) : Ret Tryz.prog 183 #[] w0 fun v w' => v = .bool true ∧ Only [] w0 w' := by
  have hs := St.nil w0
  refine ret_of_xc Tryz.func183 (by kernel_rfl) rfl Tryz.ntmps183 rfl rfl rfl ?_
  repeat' (first|refine vs (k:=?_)|refine ps (k:=?_)|((first|refine st hs (k:=?_)|refine stA hs (k:=?_));intro w hs)|((first|refine al hs (k:=?_)|refine bx hs (k:=?_)|refine bs hs (k:=?_));intro b w hz hs)|refine qRg ?_|refine Nx.h ?_|refine qBo ?_|refine qCt ?_|refine qCf ?_|((with_reducible apply xs_guard);exact rfl;exact rfl;intro c hc;(fail_if_success have:true=c:=hc);(fail_if_success have:false=c:=hc);cases c)|(refine xc_if rfl (fun hc=>?_) (fun hc=>?_))|(refine xc_cond rfl (fun hc=>?_) (fun hc=>?_)))
  (with_reducible apply xs_call); exact rfl; exact rfl; exact awake5_ret _
  rintro v w' ⟨rfl, ho⟩; replace hs := hs.call0 ho; repeat' (first|refine vs (k:=?_)|refine ps (k:=?_)|((first|refine st hs (k:=?_)|refine stA hs (k:=?_));intro w hs)|((first|refine al hs (k:=?_)|refine bx hs (k:=?_)|refine bs hs (k:=?_));intro b w hz hs)|refine qRg ?_|refine Nx.h ?_|refine qBo ?_|refine qCt ?_|refine qCf ?_|((with_reducible apply xs_guard);exact rfl;exact rfl;intro c hc;(fail_if_success have:true=c:=hc);(fail_if_success have:false=c:=hc);cases c)|(refine xc_if rfl (fun hc=>?_) (fun hc=>?_))|(refine xc_cond rfl (fun hc=>?_) (fun hc=>?_)))
  first | refine rt (hq := ?_) | refine rt' (hq := ?_)
  exact ⟨rfl, hs.only0 rfl⟩
end Go.Proofs.YtegoaabjccignaaGreatDoorX
