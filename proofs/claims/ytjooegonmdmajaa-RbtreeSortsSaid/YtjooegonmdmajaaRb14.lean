/- rbtree: Delete; a tree as a list in order. -/
import Derived.Test.YtjooegonmdmajaaRb13
set_option linter.unusedVariables false
set_option linter.unusedSimpArgs false
set_option linter.unusedSectionVars false
set_option maxRecDepth 100000
namespace Go.Proofs.YtjooegonmdmajaaX
open Go Go.RowKit
attribute [local irreducible] XS XC XA thenE blockE retE loopE loopS cutB cutN doneE SE
theorem sans_len {x : Int} : ∀ {l : List Int}, RB.Srt ltI l → x ∈ l → (RB.sans x l).length + 1 = l.length
  | [], _, h => by cases h
  | a :: l, hs, h => by
    have h1 := List.pairwise_cons.1 hs
    by_cases e : a = x
    · subst e
      rw [RB.sans_self, RB.sans_none (fun z hz e => ?_)]
      · rfl
      · subst e; have := h1.1 _ hz; simp [ltI] at this
    · rw [RB.sans_cons e]
      have hm : x ∈ l := by rcases List.mem_cons.1 h with h | h; exact absurd h.symm e; exact h
      have := sans_len h1.2 hm
      simp only [List.length_cons]
      omega
theorem sans_srt {x : Int} {l : List Int} (h : RB.Srt ltI l) : RB.Srt ltI (RB.sans x l) := h.filter _
theorem dat_keep2 {w w' : World} {b tb : Nat} {v : Value} {xs : List Int} {p0 : Option Addr} {n0 : Int} {cs : Array Value} {fz : Nat × Nat} (h : DAt w v xs) (ho : Only [b, tb] w w') (hb : w.heap[b]? = some (.cells cs 84 fz)) (hT : w.heap[tb]? = some (treeO p0 n0)) : DAt w' v xs := by
  obtain ⟨ad, cap, rfl, hd⟩ := h
  refine ⟨ad, cap, rfl, fun hn => ?_⟩
  obtain ⟨bb, off, cs, fz, g1, g2, g3, g4⟩ := hd hn
  refine ⟨bb, off, cs, fz, g1, g2, ho.block g3 (fun hm => ?_), g4⟩
  simp only [List.mem_cons, List.not_mem_nil, or_false] at hm
  rcases hm with rfl | rfl
  · rw [hb] at g3; cases g3
  · rw [hT] at g3; cases g3
set_option maxHeartbeats 4000000 in
theorem rbDelete_ret (tb : Nat) (t : RB Int) (F : List Nat) (x : Int) (w0 : World) (h : Obj6 w0 tb t F) (hg : RB.Good t) (hs6 : RB.Srt ltI t.list) (hlen : t.list.length ≤ 1000000) :
    Ret Try.prog 34 #[.pointer (some ⟨tb, 0, none⟩), .int .i64 x] w0 fun v w' => v = .bool (decide (x ∈ t.list)) ∧ ∃ t' F', Obj6 w' tb t' F' ∧ RB.Good t' ∧ t'.list = RB.sans x t.list ∧ (∀ k ∈ F', k ∈ F ∨ w0.heap.size ≤ k) ∧ Only F w0 w' := by
  have hmem := RB.has_iff ordI (x := x) trivial t hs6 (fun _ _ => trivial)
  have hh : RB.has ltI x t = decide (x ∈ t.list) := by
    cases hq : RB.has ltI x t
    · exact (decide_eq_false (fun h => by rw [hmem.2 h] at hq; cases hq)).symm
    · exact (decide_eq_true (hmem.1 hq)).symm
  obtain ⟨p, fp, rfl, hT, ht, hnd⟩ := h
  have hs := St.nil w0
  refine ret_of_xc Try.func34 (by kernel_rfl) rfl Try.ntmps34 rfl rfl rfl ?_
  repeat' (first | refine vs (k := ?_) | refine ps (k := ?_) | (refine st hs (k := ?_); intro w hs) | (refine stA hs (k := ?_); intro w hs) | (refine al hs (k := ?_); intro b w hz hs) | (refine bx hs (k := ?_); intro b w hz hs) | (refine bs hs (k := ?_); intro b w hz hs) | refine XS.nil ?_ | refine then_of ?_ | refine xc_seq ?_ | (refine xc_region ?_ ?_; exact rfl) | refine xc_block ?_ | refine block_normal ?_ | refine xc_ret ?_ | refine then_ret ?_ | refine block_ret ?_ | refine xc_skip ?_ | refine xc_exit ?_ | refine then_exit ?_ | refine loopS_exit ?_ | refine loopS_ret ?_ | refine cutB_ret ?_ | refine cutN_ret ?_ | refine cutN_exit ?_ | refine block_exit ?_ | (refine block_other ?_ ?_; exact rfl) | (refine xc_true ?_ ?_; exact rfl) | (refine xc_false ?_ ?_; exact rfl) | ((with_reducible apply xs_guard); exact rfl; exact rfl; intro c hc; (fail_if_success (have : true = c := hc)); (fail_if_success (have : false = c := hc)); cases c) | (refine xc_if rfl (fun hc => ?_) (fun hc => ?_)) | (refine xc_cond rfl (fun hc => ?_) (fun hc => ?_)))
  (with_reducible apply xs_call); exact rfl; exact rfl; exact has_ret tb p _ t fp x _ hT ht
  rintro v w1 ⟨rfl, ho⟩; replace hs := hs.call0 ho
  rw [hh]
  have ho1 := hs.only0 rfl
  by_cases hx : x ∈ t.list
  · rw [decide_eq_true hx]
    obtain ⟨hred, h, hok⟩ := hg
    cases t with
    | nil => cases hx
    | node l y r c =>
    obtain rfl : c = false := hred
    obtain ⟨h, rfl, hokl, hokr, hrr⟩ := hok.inv_black
    obtain ⟨b, av, pl, pr, fl, fr, rfl, rfl, hb, hav, hl, hr⟩ := ht
    have hbt := head_ne hT hb
    have hT1 := head_keep hT ho1 (Nodes.nil _)
    have hb1 := ho1.block hb (by simp)
    have hl1 := hl.keep ho1 (Nodes.nil _) (by simp)
    have hr1 := hr.keep ho1 (Nodes.nil _) (by simp)
    have hav1 := hav.keep ho1 (Nodes.nil _)
    have hN1 : Nodes w1 [b] := Nodes.cons hb1 (Nodes.nil _)
    have hbn : b ∉ fl ∧ b ∉ fr := by simp only [List.nodup_cons, List.mem_append, not_or] at hnd; exact hnd.1
    clear hs
    have hs := ((St.nil w1).track hT1 (by simp)).track hb1 (by simpa using hbt)
    have hI : RB.In ltI (fun _ => True) x (l.list ++ y :: r.list) := ⟨hs6, fun _ _ => trivial, hx⟩
    -- what is common behind the question of colours
    have rest : ∀ (q : Bool) (w2 : World) (hs : St w1 D0 [(b, nodeO y av pl pr q, false), (tb, treeO (some ⟨b, 0, none⟩) ((RB.node l y r false).list.length : Nat), false)] w2) (hq : q = true ∨ l.red = true) (hq2 : q = true → l.red = false),
        ∃ t1, RB.cut ltI x (RB.node l y r false).list.length (.node l y r q) = some t1 ∧ (∃ h', RB.Ok t1 h') ∧ t1.list = RB.sans x (l.list ++ y :: r.list) ∧ TreeAt w2 (.node l y r q) (some ⟨b, 0, none⟩) (b :: (fl ++ fr)) ∧ Only [b] w1 w2 ∧ w2.heap[tb]? = some (treeO (some ⟨b, 0, none⟩) ((RB.node l y r false).list.length : Nat)) := by
      intro q w2 hs hq hq2
      have ho2 : Only [b] w1 w2 := hs.onlyF [b] (by simp [hT1]) (by simp [D0])
      have htr : TreeAt w2 (.node l y r q) (some ⟨b, 0, none⟩) (b :: (fl ++ fr)) := ⟨b, av, pl, pr, fl, fr, rfl, rfl, hs.get At.head, hav1.keep ho2 hN1, hl1.keep ho2 hN1 (fun k hk hm => by obtain rfl := List.mem_singleton.1 hm; exact hbn.1 hk), hr1.keep ho2 hN1 (fun k hk hm => by obtain rfl := List.mem_singleton.1 hm; exact hbn.2 hk)⟩
      have hcut : ∃ h', RB.Ok (.node l y r q) h' := by
        cases q
        · exact ⟨_, .black hokl hokr hrr⟩
        · exact ⟨_, .red hokl hokr (hq2 rfl) hrr⟩
      obtain ⟨h', hok'⟩ := hcut
      obtain ⟨t1, e1, e2⟩ := RB.cut_ok ordI (RB.node l y r false).list.length (.node l y r q) h' hok' rfl (by rcases hq with h | h; exact .inl h; exact .inr h) (Nat.le_refl _) hI
      exact ⟨t1, e1, ⟨h', e2.ok⟩, e2.list, htr, ho2, hs.get (At.tail At.head)⟩
    -- what is common behind the cut
    have fin : ∀ (t1 : RB Int) (w2 w3 : World) (v : Value) (hok1 : ∃ h', RB.Ok t1 h') (hl1 : t1.list = RB.sans x (l.list ++ y :: r.list)) (ho2 : Only [b] w1 w2) (k : Turned w2 (b :: (fl ++ fr)) t1 v w3), ∃ p' fp', v = .pointer p' ∧ TreeAt w3 t1 p' fp' ∧ fp'.Nodup ∧ (∀ k ∈ fp', k ∈ b :: (fl ++ fr) ∨ w0.heap.size ≤ k) ∧ Only (b :: (fl ++ fr)) w0 w3 := by
      intro t1 w2 w3 v hok1 hl1 ho2 k
      obtain ⟨p', fp', e, k1, k2, k3, k4⟩ := k
      have o2 : Only (b :: (fl ++ fr)) w0 w2 := (ho1.weaken (by simp)).step ho2 (fun k hk => .inl (by obtain rfl := List.mem_singleton.1 hk; exact List.mem_cons_self))
      exact ⟨p', fp', e, k1, k2, sub_up (fun k hk => .inl hk) k3 o2.size, o2.step k4 (fun k hk => .inl hk)⟩
    have hln := sans_len hs6 hx
    repeat' (first | refine vs (k := ?_) | refine ps (k := ?_) | (refine st hs (k := ?_); intro w hs) | (refine stA hs (k := ?_); intro w hs) | (refine al hs (k := ?_); intro b w hz hs) | (refine bx hs (k := ?_); intro b w hz hs) | (refine bs hs (k := ?_); intro b w hz hs) | refine XS.nil ?_ | refine then_of ?_ | refine xc_seq ?_ | (refine xc_region ?_ ?_; exact rfl) | refine xc_block ?_ | refine block_normal ?_ | refine xc_ret ?_ | refine then_ret ?_ | refine block_ret ?_ | refine xc_skip ?_ | refine xc_exit ?_ | refine then_exit ?_ | refine loopS_exit ?_ | refine loopS_ret ?_ | refine cutB_ret ?_ | refine cutN_ret ?_ | refine cutN_exit ?_ | refine block_exit ?_ | (refine block_other ?_ ?_; exact rfl) | (refine xc_true ?_ ?_; exact rfl) | (refine xc_false ?_ ?_; exact rfl) | ((with_reducible apply xs_guard); exact rfl; exact rfl; intro c hc; (fail_if_success (have : true = c := hc)); (fail_if_success (have : false = c := hc)); cases c) | (refine xc_if rfl (fun hc => ?_) (fun hc => ?_)) | (refine xc_cond rfl (fun hc => ?_) (fun hc => ?_)))
    (with_reducible apply xs_call); exact rfl; exact rfl; exact isRed_ret l pl fl _ (hl1.keep (hs.onlyF [] (by simp [hT1, hb1]) (by simp [D0])) (Nodes.nil _) (by simp))
    rintro v w' ⟨rfl, ho⟩; replace hs := hs.call0 ho
    cases hq : l.red
    · repeat' (first | refine vs (k := ?_) | refine ps (k := ?_) | (refine st hs (k := ?_); intro w hs) | (refine stA hs (k := ?_); intro w hs) | (refine al hs (k := ?_); intro b w hz hs) | (refine bx hs (k := ?_); intro b w hz hs) | (refine bs hs (k := ?_); intro b w hz hs) | refine XS.nil ?_ | refine then_of ?_ | refine xc_seq ?_ | (refine xc_region ?_ ?_; exact rfl) | refine xc_block ?_ | refine block_normal ?_ | refine xc_ret ?_ | refine then_ret ?_ | refine block_ret ?_ | refine xc_skip ?_ | refine xc_exit ?_ | refine then_exit ?_ | refine loopS_exit ?_ | refine loopS_ret ?_ | refine cutB_ret ?_ | refine cutN_ret ?_ | refine cutN_exit ?_ | refine block_exit ?_ | (refine block_other ?_ ?_; exact rfl) | (refine xc_true ?_ ?_; exact rfl) | (refine xc_false ?_ ?_; exact rfl) | ((with_reducible apply xs_guard); exact rfl; exact rfl; intro c hc; (fail_if_success (have : true = c := hc)); (fail_if_success (have : false = c := hc)); cases c) | (refine xc_if rfl (fun hc => ?_) (fun hc => ?_)) | (refine xc_cond rfl (fun hc => ?_) (fun hc => ?_)))
      (with_reducible apply xs_call); exact rfl; exact rfl; exact isRed_ret r pr fr _ (hr1.keep (hs.onlyF [] (by simp [hT1, hb1]) (by simp [D0])) (Nodes.nil _) (by simp))
      rintro v w' ⟨rfl, ho⟩; replace hs := hs.call0 ho
      rw [hrr]
      repeat' (first | refine vs (k := ?_) | refine ps (k := ?_) | (refine st hs (k := ?_); intro w hs) | (refine stA hs (k := ?_); intro w hs) | (refine al hs (k := ?_); intro b w hz hs) | (refine bx hs (k := ?_); intro b w hz hs) | (refine bs hs (k := ?_); intro b w hz hs) | refine XS.nil ?_ | refine then_of ?_ | refine xc_seq ?_ | (refine xc_region ?_ ?_; exact rfl) | refine xc_block ?_ | refine block_normal ?_ | refine xc_ret ?_ | refine then_ret ?_ | refine block_ret ?_ | refine xc_skip ?_ | refine xc_exit ?_ | refine then_exit ?_ | refine loopS_exit ?_ | refine loopS_ret ?_ | refine cutB_ret ?_ | refine cutN_ret ?_ | refine cutN_exit ?_ | refine block_exit ?_ | (refine block_other ?_ ?_; exact rfl) | (refine xc_true ?_ ?_; exact rfl) | (refine xc_false ?_ ?_; exact rfl) | ((with_reducible apply xs_guard); exact rfl; exact rfl; intro c hc; (fail_if_success (have : true = c := hc)); (fail_if_success (have : false = c := hc)); cases c) | (refine xc_if rfl (fun hc => ?_) (fun hc => ?_)) | (refine xc_cond rfl (fun hc => ?_) (fun hc => ?_)))
      obtain ⟨t1, e1, e2, e3, e4, e5, e6⟩ := rest true _ hs (.inl rfl) (fun _ => hq)
      (with_reducible apply xs_call); exact rfl; exact rfl; exact cut_ret tb _ _ x _ _ t1 _ _ _ e6 e4 hnd (by simpa [RB.list] using hlen) e1
      rintro v w3 hk
      obtain ⟨p', fp', rfl, k1, k2, k3, k4⟩ := fin t1 _ _ _ e2 e3 e5 hk
      obtain ⟨_, _, _, _, _, _, k5⟩ := id hk
      have hT3 := head_keep e6 k5 e4.nodes
      have hlen1 : t1.list.length + 1 = (RB.node l y r false).list.length := by rw [e3]; exact hln
      have en : IntKind.i64.wrap (((RB.node l y r false).list.length : Nat) - 1) = ((t1.list.length : Nat) : Int) := by
        rw [i64_small (by omega) (by omega)]
        omega
      clear hs
      obtain ⟨h', hok1⟩ := e2
      cases t1 with
      | nil =>
        obtain ⟨rfl, rfl⟩ := k1
        have hs := (St.nil w3).track hT3 (by simp)
        repeat' (first | refine vs (k := ?_) | refine ps (k := ?_) | (refine st hs (k := ?_); intro w hs) | (refine stA hs (k := ?_); intro w hs) | (refine al hs (k := ?_); intro b w hz hs) | (refine bx hs (k := ?_); intro b w hz hs) | (refine bs hs (k := ?_); intro b w hz hs) | refine XS.nil ?_ | refine then_of ?_ | refine xc_seq ?_ | (refine xc_region ?_ ?_; exact rfl) | refine xc_block ?_ | refine block_normal ?_ | refine xc_ret ?_ | refine then_ret ?_ | refine block_ret ?_ | refine xc_skip ?_ | refine xc_exit ?_ | refine then_exit ?_ | refine loopS_exit ?_ | refine loopS_ret ?_ | refine cutB_ret ?_ | refine cutN_ret ?_ | refine cutN_exit ?_ | refine block_exit ?_ | (refine block_other ?_ ?_; exact rfl) | (refine xc_true ?_ ?_; exact rfl) | (refine xc_false ?_ ?_; exact rfl) | ((with_reducible apply xs_guard); exact rfl; exact rfl; intro c hc; (fail_if_success (have : true = c := hc)); (fail_if_success (have : false = c := hc)); cases c) | (refine xc_if rfl (fun hc => ?_) (fun hc => ?_)) | (refine xc_cond rfl (fun hc => ?_) (fun hc => ?_)))
        first | refine rt (hq := ?_) | refine rt' (hq := ?_)
        rw [en] at hs
        have ho4 : Only [tb] w3 _ := hs.onlyF [tb] (by simp) (by simp [D0])
        refine ⟨rfl, .nil, [tb], ⟨none, [], rfl, hs.get At.head, ⟨rfl, rfl⟩, List.nodup_nil⟩, RB.Good.nil, e3, ?_, ?_⟩
        · exact fun k hk => .inl (by obtain rfl := List.mem_singleton.1 hk; exact List.mem_cons_self)
        · exact (k4.weaken (fun k hk => List.mem_cons_of_mem _ hk)).step ho4 (fun k hk => .inl (by obtain rfl := List.mem_singleton.1 hk; exact List.mem_cons_self))
      | node l1 y1 r1 c1 =>
        obtain ⟨b', av', pl', pr', fl', fr', rfl, rfl, hb', hav', hl', hr'⟩ := k1
        have hbt' := head_ne hT3 hb'
        have hs := ((St.nil w3).track hT3 (by simp)).track hb' (by simpa using hbt')
        repeat' (first | refine vs (k := ?_) | refine ps (k := ?_) | (refine st hs (k := ?_); intro w hs) | (refine stA hs (k := ?_); intro w hs) | (refine al hs (k := ?_); intro b w hz hs) | (refine bx hs (k := ?_); intro b w hz hs) | (refine bs hs (k := ?_); intro b w hz hs) | refine XS.nil ?_ | refine then_of ?_ | refine xc_seq ?_ | (refine xc_region ?_ ?_; exact rfl) | refine xc_block ?_ | refine block_normal ?_ | refine xc_ret ?_ | refine then_ret ?_ | refine block_ret ?_ | refine xc_skip ?_ | refine xc_exit ?_ | refine then_exit ?_ | refine loopS_exit ?_ | refine loopS_ret ?_ | refine cutB_ret ?_ | refine cutN_ret ?_ | refine cutN_exit ?_ | refine block_exit ?_ | (refine block_other ?_ ?_; exact rfl) | (refine xc_true ?_ ?_; exact rfl) | (refine xc_false ?_ ?_; exact rfl) | ((with_reducible apply xs_guard); exact rfl; exact rfl; intro c hc; (fail_if_success (have : true = c := hc)); (fail_if_success (have : false = c := hc)); cases c) | (refine xc_if rfl (fun hc => ?_) (fun hc => ?_)) | (refine xc_cond rfl (fun hc => ?_) (fun hc => ?_)))
        first | refine rt (hq := ?_) | refine rt' (hq := ?_)
        rw [en] at hs
        have ho4 : Only [b', tb] w3 _ := hs.onlyF [b', tb] (by simp) (by simp [D0])
        have hbn' : b' ∉ fl' ∧ b' ∉ fr' := by
          simp only [List.nodup_cons, List.mem_append, not_or] at k2
          exact k2.1
        have htn : tb ∉ fl' ∧ tb ∉ fr' := ⟨(fun h => by obtain ⟨_, _, h⟩ := hl'.nodes tb h; rw [hT3] at h; cases h), (fun h => by obtain ⟨_, _, h⟩ := hr'.nodes tb h; rw [hT3] at h; cases h)⟩
        refine ⟨rfl, .node l1 y1 r1 false, tb :: (b' :: (fl' ++ fr')), ⟨_, _, rfl, hs.get (At.tail At.head), ⟨b', av', pl', pr', fl', fr', rfl, rfl, hs.get At.head, ?_, tree_keep2 hl' ho4 hb' hT3 hbn'.1 htn.1, tree_keep2 hr' ho4 hb' hT3 hbn'.2 htn.2⟩, k2⟩, ⟨rfl, RB.Ok.blacken hok1⟩, e3, ?_, ?_⟩
        · exact dat_keep2 hav' ho4 hb' hT3
        · intro k hk
          rcases List.mem_cons.1 hk with rfl | hk
          · exact .inl List.mem_cons_self
          · rcases k3 k hk with h | h
            · exact .inl (List.mem_cons_of_mem _ h)
            · exact .inr h
        · refine (k4.weaken (fun k hk => List.mem_cons_of_mem _ hk)).step ho4 (fun k hk => ?_)
          simp only [List.mem_cons, List.not_mem_nil, or_false] at hk
          rcases hk with rfl | rfl
          · rcases k3 k List.mem_cons_self with h | h
            · exact .inl (List.mem_cons_of_mem _ h)
            · exact .inr h
          · exact .inl List.mem_cons_self
    · repeat' (first | refine vs (k := ?_) | refine ps (k := ?_) | (refine st hs (k := ?_); intro w hs) | (refine stA hs (k := ?_); intro w hs) | (refine al hs (k := ?_); intro b w hz hs) | (refine bx hs (k := ?_); intro b w hz hs) | (refine bs hs (k := ?_); intro b w hz hs) | refine XS.nil ?_ | refine then_of ?_ | refine xc_seq ?_ | (refine xc_region ?_ ?_; exact rfl) | refine xc_block ?_ | refine block_normal ?_ | refine xc_ret ?_ | refine then_ret ?_ | refine block_ret ?_ | refine xc_skip ?_ | refine xc_exit ?_ | refine then_exit ?_ | refine loopS_exit ?_ | refine loopS_ret ?_ | refine cutB_ret ?_ | refine cutN_ret ?_ | refine cutN_exit ?_ | refine block_exit ?_ | (refine block_other ?_ ?_; exact rfl) | (refine xc_true ?_ ?_; exact rfl) | (refine xc_false ?_ ?_; exact rfl) | ((with_reducible apply xs_guard); exact rfl; exact rfl; intro c hc; (fail_if_success (have : true = c := hc)); (fail_if_success (have : false = c := hc)); cases c) | (refine xc_if rfl (fun hc => ?_) (fun hc => ?_)) | (refine xc_cond rfl (fun hc => ?_) (fun hc => ?_)))
      obtain ⟨t1, e1, e2, e3, e4, e5, e6⟩ := rest false _ hs (.inr hq) (fun h => by cases h)
      (with_reducible apply xs_call); exact rfl; exact rfl; exact cut_ret tb _ _ x _ _ t1 _ _ _ e6 e4 hnd (by simpa [RB.list] using hlen) e1
      rintro v w3 hk
      obtain ⟨p', fp', rfl, k1, k2, k3, k4⟩ := fin t1 _ _ _ e2 e3 e5 hk
      obtain ⟨_, _, _, _, _, _, k5⟩ := id hk
      have hT3 := head_keep e6 k5 e4.nodes
      have hlen1 : t1.list.length + 1 = (RB.node l y r false).list.length := by rw [e3]; exact hln
      have en : IntKind.i64.wrap (((RB.node l y r false).list.length : Nat) - 1) = ((t1.list.length : Nat) : Int) := by
        rw [i64_small (by omega) (by omega)]
        omega
      clear hs
      obtain ⟨h', hok1⟩ := e2
      cases t1 with
      | nil =>
        obtain ⟨rfl, rfl⟩ := k1
        have hs := (St.nil w3).track hT3 (by simp)
        repeat' (first | refine vs (k := ?_) | refine ps (k := ?_) | (refine st hs (k := ?_); intro w hs) | (refine stA hs (k := ?_); intro w hs) | (refine al hs (k := ?_); intro b w hz hs) | (refine bx hs (k := ?_); intro b w hz hs) | (refine bs hs (k := ?_); intro b w hz hs) | refine XS.nil ?_ | refine then_of ?_ | refine xc_seq ?_ | (refine xc_region ?_ ?_; exact rfl) | refine xc_block ?_ | refine block_normal ?_ | refine xc_ret ?_ | refine then_ret ?_ | refine block_ret ?_ | refine xc_skip ?_ | refine xc_exit ?_ | refine then_exit ?_ | refine loopS_exit ?_ | refine loopS_ret ?_ | refine cutB_ret ?_ | refine cutN_ret ?_ | refine cutN_exit ?_ | refine block_exit ?_ | (refine block_other ?_ ?_; exact rfl) | (refine xc_true ?_ ?_; exact rfl) | (refine xc_false ?_ ?_; exact rfl) | ((with_reducible apply xs_guard); exact rfl; exact rfl; intro c hc; (fail_if_success (have : true = c := hc)); (fail_if_success (have : false = c := hc)); cases c) | (refine xc_if rfl (fun hc => ?_) (fun hc => ?_)) | (refine xc_cond rfl (fun hc => ?_) (fun hc => ?_)))
        first | refine rt (hq := ?_) | refine rt' (hq := ?_)
        rw [en] at hs
        have ho4 : Only [tb] w3 _ := hs.onlyF [tb] (by simp) (by simp [D0])
        refine ⟨rfl, .nil, [tb], ⟨none, [], rfl, hs.get At.head, ⟨rfl, rfl⟩, List.nodup_nil⟩, RB.Good.nil, e3, ?_, ?_⟩
        · exact fun k hk => .inl (by obtain rfl := List.mem_singleton.1 hk; exact List.mem_cons_self)
        · exact (k4.weaken (fun k hk => List.mem_cons_of_mem _ hk)).step ho4 (fun k hk => .inl (by obtain rfl := List.mem_singleton.1 hk; exact List.mem_cons_self))
      | node l1 y1 r1 c1 =>
        obtain ⟨b', av', pl', pr', fl', fr', rfl, rfl, hb', hav', hl', hr'⟩ := k1
        have hbt' := head_ne hT3 hb'
        have hs := ((St.nil w3).track hT3 (by simp)).track hb' (by simpa using hbt')
        repeat' (first | refine vs (k := ?_) | refine ps (k := ?_) | (refine st hs (k := ?_); intro w hs) | (refine stA hs (k := ?_); intro w hs) | (refine al hs (k := ?_); intro b w hz hs) | (refine bx hs (k := ?_); intro b w hz hs) | (refine bs hs (k := ?_); intro b w hz hs) | refine XS.nil ?_ | refine then_of ?_ | refine xc_seq ?_ | (refine xc_region ?_ ?_; exact rfl) | refine xc_block ?_ | refine block_normal ?_ | refine xc_ret ?_ | refine then_ret ?_ | refine block_ret ?_ | refine xc_skip ?_ | refine xc_exit ?_ | refine then_exit ?_ | refine loopS_exit ?_ | refine loopS_ret ?_ | refine cutB_ret ?_ | refine cutN_ret ?_ | refine cutN_exit ?_ | refine block_exit ?_ | (refine block_other ?_ ?_; exact rfl) | (refine xc_true ?_ ?_; exact rfl) | (refine xc_false ?_ ?_; exact rfl) | ((with_reducible apply xs_guard); exact rfl; exact rfl; intro c hc; (fail_if_success (have : true = c := hc)); (fail_if_success (have : false = c := hc)); cases c) | (refine xc_if rfl (fun hc => ?_) (fun hc => ?_)) | (refine xc_cond rfl (fun hc => ?_) (fun hc => ?_)))
        first | refine rt (hq := ?_) | refine rt' (hq := ?_)
        rw [en] at hs
        have ho4 : Only [b', tb] w3 _ := hs.onlyF [b', tb] (by simp) (by simp [D0])
        have hbn' : b' ∉ fl' ∧ b' ∉ fr' := by
          simp only [List.nodup_cons, List.mem_append, not_or] at k2
          exact k2.1
        have htn : tb ∉ fl' ∧ tb ∉ fr' := ⟨(fun h => by obtain ⟨_, _, h⟩ := hl'.nodes tb h; rw [hT3] at h; cases h), (fun h => by obtain ⟨_, _, h⟩ := hr'.nodes tb h; rw [hT3] at h; cases h)⟩
        refine ⟨rfl, .node l1 y1 r1 false, tb :: (b' :: (fl' ++ fr')), ⟨_, _, rfl, hs.get (At.tail At.head), ⟨b', av', pl', pr', fl', fr', rfl, rfl, hs.get At.head, ?_, tree_keep2 hl' ho4 hb' hT3 hbn'.1 htn.1, tree_keep2 hr' ho4 hb' hT3 hbn'.2 htn.2⟩, k2⟩, ⟨rfl, RB.Ok.blacken hok1⟩, e3, ?_, ?_⟩
        · exact dat_keep2 hav' ho4 hb' hT3
        · intro k hk
          rcases List.mem_cons.1 hk with rfl | hk
          · exact .inl List.mem_cons_self
          · rcases k3 k hk with h | h
            · exact .inl (List.mem_cons_of_mem _ h)
            · exact .inr h
        · refine (k4.weaken (fun k hk => List.mem_cons_of_mem _ hk)).step ho4 (fun k hk => ?_)
          simp only [List.mem_cons, List.not_mem_nil, or_false] at hk
          rcases hk with rfl | rfl
          · rcases k3 k List.mem_cons_self with h | h
            · exact .inl (List.mem_cons_of_mem _ h)
            · exact .inr h
          · exact .inl List.mem_cons_self
  · rw [decide_eq_false hx]
    repeat' (first | refine vs (k := ?_) | refine ps (k := ?_) | (refine st hs (k := ?_); intro w hs) | (refine stA hs (k := ?_); intro w hs) | (refine al hs (k := ?_); intro b w hz hs) | (refine bx hs (k := ?_); intro b w hz hs) | (refine bs hs (k := ?_); intro b w hz hs) | refine XS.nil ?_ | refine then_of ?_ | refine xc_seq ?_ | (refine xc_region ?_ ?_; exact rfl) | refine xc_block ?_ | refine block_normal ?_ | refine xc_ret ?_ | refine then_ret ?_ | refine block_ret ?_ | refine xc_skip ?_ | refine xc_exit ?_ | refine then_exit ?_ | refine loopS_exit ?_ | refine loopS_ret ?_ | refine cutB_ret ?_ | refine cutN_ret ?_ | refine cutN_exit ?_ | refine block_exit ?_ | (refine block_other ?_ ?_; exact rfl) | (refine xc_true ?_ ?_; exact rfl) | (refine xc_false ?_ ?_; exact rfl) | ((with_reducible apply xs_guard); exact rfl; exact rfl; intro c hc; (fail_if_success (have : true = c := hc)); (fail_if_success (have : false = c := hc)); cases c) | (refine xc_if rfl (fun hc => ?_) (fun hc => ?_)) | (refine xc_cond rfl (fun hc => ?_) (fun hc => ?_)))
    first | refine rt (hq := ?_) | refine rt' (hq := ?_)
    have ho1 := hs.only0 rfl
    exact ⟨rfl, t, tb :: fp, Obj6.only ⟨p, fp, rfl, hT, ht, hnd⟩ ho1, hg, (RB.sans_none (fun z hz e => hx (by rw [← e]; exact hz))).symm, fun k hk => .inl hk, ho1.weaken (by simp)⟩
end Go.Proofs.YtjooegonmdmajaaX
