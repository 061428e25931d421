/- rbtree: insert. -/
import Derived.Test.YtjooegonmdmajaaRb4
set_option linter.unusedVariables false
set_option linter.unusedSimpArgs false
set_option maxRecDepth 100000
namespace Go.Proofs.YtjooegonmdmajaaX
open Go Go.RowKit
attribute [local irreducible] XS XC XA thenE blockE retE loopE loopS cutB cutN doneE SE
theorem Turned.up {w0 w2 w3 : World} {fp fp2 : List Nat} {t : RB Int} {v : Value} (k : Turned w2 fp2 t v w3) (ho : Only fp w0 w2) (hs : ∀ k ∈ fp2, k ∈ fp ∨ w0.heap.size ≤ k) : Turned w0 fp t v w3 := by
  obtain ⟨p', fp', rfl, k1, k2, k3, k4⟩ := k
  refine ⟨p', fp', rfl, k1, k2, fun i hi => ?_, ho.step k4 hs⟩
  have := ho.size
  rcases k3 i hi with h | h
  · exact hs i h
  · exact .inr (by omega)
/-- A tree that came back is laid to the left of its node. -/
theorem graftL {w w' w2 : World} {b : Nat} {y y2 : Int} {av av2 : Value} {pl pr p' : Option Addr} {c c2 : Bool} {fl fr : List Nat} {r l' : RB Int} (hb : w.heap[b]? = some (nodeO y av pl pr c)) (hl : Nodes w fl) (hr : TreeAt w r pr fr) (hnd : (b :: (fl ++ fr)).Nodup)
    (k : Turned w fl l' (.pointer p') w') (ho : Only [b] w' w2) (hb2 : w2.heap[b]? = some (nodeO y2 av2 p' pr c2)) :
    ∃ fp2, StaleAt w2 l' y2 r c2 (some ⟨b, 0, none⟩) fp2 ∧ fp2.Nodup ∧ (∀ i ∈ fp2, i ∈ b :: (fl ++ fr) ∨ w.heap.size ≤ i) ∧ Only (b :: (fl ++ fr)) w w2 := by
  obtain ⟨p, fp', e, k1, k2, k3, k4⟩ := k
  obtain rfl : p' = p := by injection e
  have hbs := lt_of_block hb
  have hrs := hr.nodes.lt
  simp only [List.nodup_cons, List.nodup_append, List.mem_append] at hnd
  obtain ⟨d1, d2, d3, d4⟩ := hnd
  have e1 : b ∉ fp' := fun hm => by
    rcases k3 b hm with h | h
    · exact d1 (.inl h)
    · omega
  have e2 : ∀ i ∈ fr, i ∉ fl := fun i hi hm => d4 i hm i hi rfl
  have hb1 := k4.block hb (fun h => d1 (.inl h))
  have hN : Nodes w' [b] := Nodes.cons hb1 (Nodes.nil w')
  refine ⟨b :: (fp' ++ fr), ⟨b, av2, p', pr, fp', fr, rfl, rfl, hb2, k1.keep ho hN (fun i hi hm => ?_), (hr.keep k4 hl e2).keep ho hN (fun i hi hm => ?_)⟩, ?_, ?_, ?_⟩
  · obtain rfl := List.mem_singleton.1 hm; exact e1 hi
  · obtain rfl := List.mem_singleton.1 hm; exact d1 (.inr hi)
  · simp only [List.nodup_cons, List.nodup_append, List.mem_append]
    refine ⟨fun h => ?_, k2, d3, fun i hi j hj hij => ?_⟩
    · rcases h with h | h
      · exact e1 h
      · exact d1 (.inr h)
    · subst hij
      rcases k3 i hi with h | h
      · exact d4 i h i hj rfl
      · have := hrs i hj; omega
  · intro i hi
    rcases List.mem_cons.1 hi with rfl | hi
    · exact .inl List.mem_cons_self
    · rcases List.mem_append.1 hi with hi | hi
      · rcases k3 i hi with h | h
        · exact .inl (List.mem_cons_of_mem _ (List.mem_append_left _ h))
        · exact .inr h
      · exact .inl (List.mem_cons_of_mem _ (List.mem_append_right _ hi))
  · exact (k4.weaken (fun i hi => List.mem_cons_of_mem _ (List.mem_append_left _ hi))).step ho (fun i hi => .inl (by obtain rfl := List.mem_singleton.1 hi; exact List.mem_cons_self))
theorem graftR {w w' w2 : World} {b : Nat} {y y2 : Int} {av av2 : Value} {pl pr p' : Option Addr} {c c2 : Bool} {fl fr : List Nat} {l r' : RB Int} (hb : w.heap[b]? = some (nodeO y av pl pr c)) (hl : TreeAt w l pl fl) (hr : Nodes w fr) (hnd : (b :: (fl ++ fr)).Nodup)
    (k : Turned w fr r' (.pointer p') w') (ho : Only [b] w' w2) (hb2 : w2.heap[b]? = some (nodeO y2 av2 pl p' c2)) :
    ∃ fp2, StaleAt w2 l y2 r' c2 (some ⟨b, 0, none⟩) fp2 ∧ fp2.Nodup ∧ (∀ i ∈ fp2, i ∈ b :: (fl ++ fr) ∨ w.heap.size ≤ i) ∧ Only (b :: (fl ++ fr)) w w2 := by
  obtain ⟨p, fp', e, k1, k2, k3, k4⟩ := k
  obtain rfl : p' = p := by injection e
  have hbs := lt_of_block hb
  have hls := hl.nodes.lt
  simp only [List.nodup_cons, List.nodup_append, List.mem_append] at hnd
  obtain ⟨d1, d2, d3, d4⟩ := hnd
  have e1 : b ∉ fp' := fun hm => by
    rcases k3 b hm with h | h
    · exact d1 (.inr h)
    · omega
  have e2 : ∀ i ∈ fl, i ∉ fr := fun i hi hm => d4 i hi i hm rfl
  have hb1 := k4.block hb (fun h => d1 (.inr h))
  have hN : Nodes w' [b] := Nodes.cons hb1 (Nodes.nil w')
  refine ⟨b :: (fl ++ fp'), ⟨b, av2, pl, p', fl, fp', rfl, rfl, hb2, (hl.keep k4 hr e2).keep ho hN (fun i hi hm => ?_), k1.keep ho hN (fun i hi hm => ?_)⟩, ?_, ?_, ?_⟩
  · obtain rfl := List.mem_singleton.1 hm; exact d1 (.inl hi)
  · obtain rfl := List.mem_singleton.1 hm; exact e1 hi
  · simp only [List.nodup_cons, List.nodup_append, List.mem_append]
    refine ⟨fun h => ?_, d2, k2, fun i hi j hj hij => ?_⟩
    · rcases h with h | h
      · exact d1 (.inl h)
      · exact e1 h
    · subst hij
      rcases k3 i hj with h | h
      · exact d4 i hi i h rfl
      · have := hls i hi; omega
  · intro i hi
    rcases List.mem_cons.1 hi with rfl | hi
    · exact .inl List.mem_cons_self
    · rcases List.mem_append.1 hi with hi | hi
      · exact .inl (List.mem_cons_of_mem _ (List.mem_append_left _ hi))
      · rcases k3 i hi with h | h
        · exact .inl (List.mem_cons_of_mem _ (List.mem_append_right _ h))
        · exact .inr h
  · exact (k4.weaken (fun i hi => List.mem_cons_of_mem _ (List.mem_append_right _ hi))).step ho (fun i hi => .inl (by obtain rfl := List.mem_singleton.1 hi; exact List.mem_cons_self))
def ltI (a b : Int) : Bool := decide (a < b)
theorem len_ins (x : Int) : ∀ t : RB Int, (RB.ins ltI t x).list.length = t.list.length + 1
  | .nil => rfl
  | .node l y r c => by
    simp only [RB.ins]
    cases ltI x y
    · rw [cond_false, RB.list_mend]; simp only [RB.list, List.length_append, List.length_cons, len_ins x r]; omega
    · rw [cond_true, RB.list_mend]; simp only [RB.list, List.length_append, List.length_cons, len_ins x l]; omega
set_option maxHeartbeats 2000000 in
theorem insert_ret (tb : Nat) (p0 : Option Addr) (n0 : Int) (x : Int) : ∀ (t : RB Int) (p : Option Addr) (fp : List Nat) (w0 : World) (hT : w0.heap[tb]? = some (treeO p0 n0)) (h : TreeAt w0 t p fp) (hnd : fp.Nodup) (hlen : t.list.length + 1 ≤ 1000000),
    Ret Try.prog 63 #[.pointer (some ⟨tb, 0, none⟩), .pointer p, .int .i64 x] w0 fun v w' => Turned w0 fp (RB.ins ltI t x) v w'
  | .nil, p, fp, w0, hT, ⟨hp, hf⟩, hnd, hlen => by
    subst hp hf
    have hs := (St.nil w0).track hT (by simp)
    refine ret_of_xc Try.func63 (by kernel_rfl) rfl Try.ntmps63 rfl rfl rfl ?_
    repeat' (first | refine vs (k := ?_) | refine ps (k := ?_) | (refine st hs (k := ?_); intro w hs) | (refine stA hs (k := ?_); intro w hs) | (refine al hs (k := ?_); intro b w hz hs) | (refine bx hs (k := ?_); intro b w hz hs) | (refine bs hs (k := ?_); intro b w hz hs) | refine XS.nil ?_ | refine then_of ?_ | refine xc_seq ?_ | (refine xc_region ?_ ?_; exact rfl) | refine xc_block ?_ | refine block_normal ?_ | refine xc_ret ?_ | refine then_ret ?_ | refine block_ret ?_ | refine xc_skip ?_ | refine xc_exit ?_ | refine then_exit ?_ | refine loopS_exit ?_ | refine loopS_ret ?_ | refine cutB_ret ?_ | refine cutN_ret ?_ | refine cutN_exit ?_ | refine block_exit ?_ | (refine block_other ?_ ?_; exact rfl) | (refine xc_true ?_ ?_; exact rfl) | (refine xc_false ?_ ?_; exact rfl) | ((with_reducible apply xs_guard); exact rfl; exact rfl; intro c hc; (fail_if_success (have : true = c := hc)); (fail_if_success (have : false = c := hc)); cases c) | (refine xc_if rfl (fun hc => ?_) (fun hc => ?_)) | (refine xc_cond rfl (fun hc => ?_) (fun hc => ?_)))
    (with_reducible apply xs_call); exact rfl; exact rfl; exact one_ret x _
    rintro v w' ⟨h1, ho⟩; replace hs := hs.call0 ho; obtain ⟨ad1, cp1, rfl, _⟩ := id h1; obtain ⟨R1, hs, h1⟩ := (h1).read hs rfl
    refine vs (k := ?_)
    refine bx hs (k := ?_); intro b w hz hs
    repeat' (first | refine vs (k := ?_) | refine ps (k := ?_) | (refine st hs (k := ?_); intro w hs) | (refine stA hs (k := ?_); intro w hs) | (refine al hs (k := ?_); intro b w hz hs) | (refine bx hs (k := ?_); intro b w hz hs) | (refine bs hs (k := ?_); intro b w hz hs) | refine XS.nil ?_ | refine then_of ?_ | refine xc_seq ?_ | (refine xc_region ?_ ?_; exact rfl) | refine xc_block ?_ | refine block_normal ?_ | refine xc_ret ?_ | refine then_ret ?_ | refine block_ret ?_ | refine xc_skip ?_ | refine xc_exit ?_ | refine then_exit ?_ | refine loopS_exit ?_ | refine loopS_ret ?_ | refine cutB_ret ?_ | refine cutN_ret ?_ | refine cutN_exit ?_ | refine block_exit ?_ | (refine block_other ?_ ?_; exact rfl) | (refine xc_true ?_ ?_; exact rfl) | (refine xc_false ?_ ?_; exact rfl) | ((with_reducible apply xs_guard); exact rfl; exact rfl; intro c hc; (fail_if_success (have : true = c := hc)); (fail_if_success (have : false = c := hc)); cases c) | (refine xc_if rfl (fun hc => ?_) (fun hc => ?_)) | (refine xc_cond rfl (fun hc => ?_) (fun hc => ?_)))
    first | refine rt (hq := ?_) | refine rt' (hq := ?_)
    have hd := (h1 _ (fun e he => hs.ro e (by simp [he])))
    have ho : Only [] w0 _ := hs.onlyF [] (by simp [hT]) (by simp [D0])
    have hnew := hs.new (b, true) (by simp) rfl
    exact ⟨_, [b], rfl, ⟨b, _, none, none, [], [], rfl, rfl, hs.get At.head, hd, ⟨rfl, rfl⟩, ⟨rfl, rfl⟩⟩, by simp, fun k hk => .inr (by obtain rfl := List.mem_singleton.1 hk; exact hnew), ho⟩
  | .node l y r c, p, fp, w0, hT, ⟨b, av, pl, pr, fl, fr, hp, hf, hb, hav, hl, hr⟩, hnd, hlen => by
    subst hp hf
    have hbt := head_ne hT hb
    have hs := ((St.nil w0).track hT (by simp)).track hb (by simpa using hbt)
    simp only [RB.list, List.length_append, List.length_cons] at hlen
    refine ret_of_xc Try.func63 (by kernel_rfl) rfl Try.ntmps63 rfl rfl rfl ?_
    repeat' (first | refine vs (k := ?_) | refine ps (k := ?_) | (refine st hs (k := ?_); intro w hs) | (refine stA hs (k := ?_); intro w hs) | (refine al hs (k := ?_); intro b w hz hs) | (refine bx hs (k := ?_); intro b w hz hs) | (refine bs hs (k := ?_); intro b w hz hs) | refine XS.nil ?_ | refine then_of ?_ | refine xc_seq ?_ | (refine xc_region ?_ ?_; exact rfl) | refine xc_block ?_ | refine block_normal ?_ | refine xc_ret ?_ | refine then_ret ?_ | refine block_ret ?_ | refine xc_skip ?_ | refine xc_exit ?_ | refine then_exit ?_ | refine loopS_exit ?_ | refine loopS_ret ?_ | refine cutB_ret ?_ | refine cutN_ret ?_ | refine cutN_exit ?_ | refine block_exit ?_ | (refine block_other ?_ ?_; exact rfl) | (refine xc_true ?_ ?_; exact rfl) | (refine xc_false ?_ ?_; exact rfl) | ((with_reducible apply xs_guard); exact rfl; exact rfl; intro c hc; (fail_if_success (have : true = c := hc)); (fail_if_success (have : false = c := hc)); cases c) | (refine xc_if rfl (fun hc => ?_) (fun hc => ?_)) | (refine xc_cond rfl (fun hc => ?_) (fun hc => ?_)))
    refine dr [] hs (k := ?_); intro hX w hs
    refine tk 0 hX (k := ?_)
    refine tk 1 hX (k := ?_)
    refine tk 2 hX (k := ?_)
    refine tk 3 hX (k := ?_)
    refine tk 4 hX (k := ?_)
    refine tk 5 hX (k := ?_)
    refine tk 6 hX (k := ?_)
    refine tk 7 hX (k := ?_)
    refine tk 8 hX (k := ?_)
    refine dt 9 hX (k := ?_)
    (with_reducible apply xs_call); exact rfl; exact rfl; exact less_ret x y _
    rintro v w' ⟨rfl, ho⟩; replace hs := hs.call0 ho
    repeat' (first | refine vs (k := ?_) | refine ps (k := ?_) | (refine st hs (k := ?_); intro w hs) | (refine stA hs (k := ?_); intro w hs) | (refine al hs (k := ?_); intro b w hz hs) | (refine bx hs (k := ?_); intro b w hz hs) | (refine bs hs (k := ?_); intro b w hz hs) | refine XS.nil ?_ | refine then_of ?_ | refine xc_seq ?_ | (refine xc_region ?_ ?_; exact rfl) | refine xc_block ?_ | refine block_normal ?_ | refine xc_ret ?_ | refine then_ret ?_ | refine block_ret ?_ | refine xc_skip ?_ | refine xc_exit ?_ | refine then_exit ?_ | refine loopS_exit ?_ | refine loopS_ret ?_ | refine cutB_ret ?_ | refine cutN_ret ?_ | refine cutN_exit ?_ | refine block_exit ?_ | (refine block_other ?_ ?_; exact rfl) | (refine xc_true ?_ ?_; exact rfl) | (refine xc_false ?_ ?_; exact rfl) | ((with_reducible apply xs_guard); exact rfl; exact rfl; intro c hc; (fail_if_success (have : true = c := hc)); (fail_if_success (have : false = c := hc)); cases c) | (refine xc_if rfl (fun hc => ?_) (fun hc => ?_)) | (refine xc_cond rfl (fun hc => ?_) (fun hc => ?_)))
    refine dn (k := ?_)
    refine tk 10 hX (k := ?_)
    refine en (k := ?_)
    generalize hq : decide (x < y) = q
    cases q
    · have e : RB.ins ltI (.node l y r c) x = RB.mend (.node l y (RB.ins ltI r x) c) := by simp [RB.ins, ltI, hq]
      rw [e]
      repeat' (first | refine vs (k := ?_) | refine ps (k := ?_) | (refine st hs (k := ?_); intro w hs) | (refine stA hs (k := ?_); intro w hs) | (refine al hs (k := ?_); intro b w hz hs) | (refine bx hs (k := ?_); intro b w hz hs) | (refine bs hs (k := ?_); intro b w hz hs) | refine XS.nil ?_ | refine then_of ?_ | refine xc_seq ?_ | (refine xc_region ?_ ?_; exact rfl) | refine xc_block ?_ | refine block_normal ?_ | refine xc_ret ?_ | refine then_ret ?_ | refine block_ret ?_ | refine xc_skip ?_ | refine xc_exit ?_ | refine then_exit ?_ | refine loopS_exit ?_ | refine loopS_ret ?_ | refine cutB_ret ?_ | refine cutN_ret ?_ | refine cutN_exit ?_ | refine block_exit ?_ | (refine block_other ?_ ?_; exact rfl) | (refine xc_true ?_ ?_; exact rfl) | (refine xc_false ?_ ?_; exact rfl) | ((with_reducible apply xs_guard); exact rfl; exact rfl; intro c hc; (fail_if_success (have : true = c := hc)); (fail_if_success (have : false = c := hc)); cases c) | (refine xc_if rfl (fun hc => ?_) (fun hc => ?_)) | (refine xc_cond rfl (fun hc => ?_) (fun hc => ?_)))
      have ho1 : Only [] w0 _ := hs.onlyF [] (by simp [hT, hb]) (by simp [D0])
      have hTw := head_keep hT ho1 (Nodes.nil _)
      have hlw := hl.keep ho1 (Nodes.nil _) (by simp)
      have hrw := hr.keep ho1 (Nodes.nil _) (by simp)
      have hbw := hs.get At.head
      (with_reducible apply xs_call); exact rfl; exact rfl; exact insert_ret tb p0 n0 x r pr fr _ hTw hrw (by simp only [List.nodup_cons, List.nodup_append] at hnd; exact hnd.2.2.1) (by omega)
      rintro v w' hk
      obtain ⟨p', hv⟩ : ∃ p', v = .pointer p' := by obtain ⟨p', _, hv, _⟩ := hk; exact ⟨p', hv⟩
      subst hv
      obtain ⟨_, _, _, _, _, _, k4⟩ := id hk
      have hT1 := head_keep hTw k4 hrw.nodes
      have hb1 := k4.block hbw (fun h => by simp [h] at hnd)
      clear hs
      have hs := ((St.nil w').track hT1 (by simp)).track hb1 (by simpa using hbt)
      repeat' (first | refine vs (k := ?_) | refine ps (k := ?_) | (refine st hs (k := ?_); intro w hs) | (refine stA hs (k := ?_); intro w hs) | (refine al hs (k := ?_); intro b w hz hs) | (refine bx hs (k := ?_); intro b w hz hs) | (refine bs hs (k := ?_); intro b w hz hs) | refine XS.nil ?_ | refine then_of ?_ | refine xc_seq ?_ | (refine xc_region ?_ ?_; exact rfl) | refine xc_block ?_ | refine block_normal ?_ | refine xc_ret ?_ | refine then_ret ?_ | refine block_ret ?_ | refine xc_skip ?_ | refine xc_exit ?_ | refine then_exit ?_ | refine loopS_exit ?_ | refine loopS_ret ?_ | refine cutB_ret ?_ | refine cutN_ret ?_ | refine cutN_exit ?_ | refine block_exit ?_ | (refine block_other ?_ ?_; exact rfl) | (refine xc_true ?_ ?_; exact rfl) | (refine xc_false ?_ ?_; exact rfl) | ((with_reducible apply xs_guard); exact rfl; exact rfl; intro c hc; (fail_if_success (have : true = c := hc)); (fail_if_success (have : false = c := hc)); cases c) | (refine xc_if rfl (fun hc => ?_) (fun hc => ?_)) | (refine xc_cond rfl (fun hc => ?_) (fun hc => ?_)))
      have ho3 : Only [b] w' _ := hs.onlyF [b] (by simp [hT1]) (by simp [D0])
      obtain ⟨fp2, s1, s2, s3, s4⟩ := graftR hbw hlw hrw.nodes hnd hk ho3 (hs.get At.head)
      (with_reducible apply xs_call); exact rfl; exact rfl; exact mend_ret tb p0 n0 _ y _ c _ _ _ (head_keep hT1 ho3 (Nodes.cons hb1 (Nodes.nil _))) s1 s2 (by simp only [List.length_append, List.length_cons, len_ins]; omega)
      rintro v w3 hm
      have hsz := ho1.size
      have hm2 := hm.up ((ho1.weaken (G := b :: (fl ++ fr)) (by simp)).step s4 (fun k hk => .inl hk)) (fun k hk => by rcases s3 k hk with h | h; exact .inl h; exact .inr (by omega))
      have hs := St.nil w3
      repeat' (first | refine vs (k := ?_) | refine ps (k := ?_) | (refine st hs (k := ?_); intro w hs) | (refine stA hs (k := ?_); intro w hs) | (refine al hs (k := ?_); intro b w hz hs) | (refine bx hs (k := ?_); intro b w hz hs) | (refine bs hs (k := ?_); intro b w hz hs) | refine XS.nil ?_ | refine then_of ?_ | refine xc_seq ?_ | (refine xc_region ?_ ?_; exact rfl) | refine xc_block ?_ | refine block_normal ?_ | refine xc_ret ?_ | refine then_ret ?_ | refine block_ret ?_ | refine xc_skip ?_ | refine xc_exit ?_ | refine then_exit ?_ | refine loopS_exit ?_ | refine loopS_ret ?_ | refine cutB_ret ?_ | refine cutN_ret ?_ | refine cutN_exit ?_ | refine block_exit ?_ | (refine block_other ?_ ?_; exact rfl) | (refine xc_true ?_ ?_; exact rfl) | (refine xc_false ?_ ?_; exact rfl) | ((with_reducible apply xs_guard); exact rfl; exact rfl; intro c hc; (fail_if_success (have : true = c := hc)); (fail_if_success (have : false = c := hc)); cases c) | (refine xc_if rfl (fun hc => ?_) (fun hc => ?_)) | (refine xc_cond rfl (fun hc => ?_) (fun hc => ?_)))
      first | refine rt (hq := ?_) | refine rt' (hq := ?_)
      exact hm2
    · have e : RB.ins ltI (.node l y r c) x = RB.mend (.node (RB.ins ltI l x) y r c) := by simp [RB.ins, ltI, hq]
      rw [e]
      repeat' (first | refine vs (k := ?_) | refine ps (k := ?_) | (refine st hs (k := ?_); intro w hs) | (refine stA hs (k := ?_); intro w hs) | (refine al hs (k := ?_); intro b w hz hs) | (refine bx hs (k := ?_); intro b w hz hs) | (refine bs hs (k := ?_); intro b w hz hs) | refine XS.nil ?_ | refine then_of ?_ | refine xc_seq ?_ | (refine xc_region ?_ ?_; exact rfl) | refine xc_block ?_ | refine block_normal ?_ | refine xc_ret ?_ | refine then_ret ?_ | refine block_ret ?_ | refine xc_skip ?_ | refine xc_exit ?_ | refine then_exit ?_ | refine loopS_exit ?_ | refine loopS_ret ?_ | refine cutB_ret ?_ | refine cutN_ret ?_ | refine cutN_exit ?_ | refine block_exit ?_ | (refine block_other ?_ ?_; exact rfl) | (refine xc_true ?_ ?_; exact rfl) | (refine xc_false ?_ ?_; exact rfl) | ((with_reducible apply xs_guard); exact rfl; exact rfl; intro c hc; (fail_if_success (have : true = c := hc)); (fail_if_success (have : false = c := hc)); cases c) | (refine xc_if rfl (fun hc => ?_) (fun hc => ?_)) | (refine xc_cond rfl (fun hc => ?_) (fun hc => ?_)))
      have ho1 : Only [] w0 _ := hs.onlyF [] (by simp [hT, hb]) (by simp [D0])
      have hTw := head_keep hT ho1 (Nodes.nil _)
      have hlw := hl.keep ho1 (Nodes.nil _) (by simp)
      have hrw := hr.keep ho1 (Nodes.nil _) (by simp)
      have hbw := hs.get At.head
      (with_reducible apply xs_call); exact rfl; exact rfl; exact insert_ret tb p0 n0 x l pl fl _ hTw hlw (by simp only [List.nodup_cons, List.nodup_append] at hnd; exact hnd.2.1) (by omega)
      rintro v w' hk
      obtain ⟨p', hv⟩ : ∃ p', v = .pointer p' := by obtain ⟨p', _, hv, _⟩ := hk; exact ⟨p', hv⟩
      subst hv
      obtain ⟨_, _, _, _, _, _, k4⟩ := id hk
      have hT1 := head_keep hTw k4 hlw.nodes
      have hb1 := k4.block hbw (fun h => by simp [h] at hnd)
      clear hs
      have hs := ((St.nil w').track hT1 (by simp)).track hb1 (by simpa using hbt)
      repeat' (first | refine vs (k := ?_) | refine ps (k := ?_) | (refine st hs (k := ?_); intro w hs) | (refine stA hs (k := ?_); intro w hs) | (refine al hs (k := ?_); intro b w hz hs) | (refine bx hs (k := ?_); intro b w hz hs) | (refine bs hs (k := ?_); intro b w hz hs) | refine XS.nil ?_ | refine then_of ?_ | refine xc_seq ?_ | (refine xc_region ?_ ?_; exact rfl) | refine xc_block ?_ | refine block_normal ?_ | refine xc_ret ?_ | refine then_ret ?_ | refine block_ret ?_ | refine xc_skip ?_ | refine xc_exit ?_ | refine then_exit ?_ | refine loopS_exit ?_ | refine loopS_ret ?_ | refine cutB_ret ?_ | refine cutN_ret ?_ | refine cutN_exit ?_ | refine block_exit ?_ | (refine block_other ?_ ?_; exact rfl) | (refine xc_true ?_ ?_; exact rfl) | (refine xc_false ?_ ?_; exact rfl) | ((with_reducible apply xs_guard); exact rfl; exact rfl; intro c hc; (fail_if_success (have : true = c := hc)); (fail_if_success (have : false = c := hc)); cases c) | (refine xc_if rfl (fun hc => ?_) (fun hc => ?_)) | (refine xc_cond rfl (fun hc => ?_) (fun hc => ?_)))
      have ho3 : Only [b] w' _ := hs.onlyF [b] (by simp [hT1]) (by simp [D0])
      obtain ⟨fp2, s1, s2, s3, s4⟩ := graftL hbw hlw.nodes hrw hnd hk ho3 (hs.get At.head)
      (with_reducible apply xs_call); exact rfl; exact rfl; exact mend_ret tb p0 n0 _ y _ c _ _ _ (head_keep hT1 ho3 (Nodes.cons hb1 (Nodes.nil _))) s1 s2 (by simp only [List.length_append, List.length_cons, len_ins]; omega)
      rintro v w3 hm
      have hsz := ho1.size
      have hm2 := hm.up ((ho1.weaken (G := b :: (fl ++ fr)) (by simp)).step s4 (fun k hk => .inl hk)) (fun k hk => by rcases s3 k hk with h | h; exact .inl h; exact .inr (by omega))
      have hs := St.nil w3
      repeat' (first | refine vs (k := ?_) | refine ps (k := ?_) | (refine st hs (k := ?_); intro w hs) | (refine stA hs (k := ?_); intro w hs) | (refine al hs (k := ?_); intro b w hz hs) | (refine bx hs (k := ?_); intro b w hz hs) | (refine bs hs (k := ?_); intro b w hz hs) | refine XS.nil ?_ | refine then_of ?_ | refine xc_seq ?_ | (refine xc_region ?_ ?_; exact rfl) | refine xc_block ?_ | refine block_normal ?_ | refine xc_ret ?_ | refine then_ret ?_ | refine block_ret ?_ | refine xc_skip ?_ | refine xc_exit ?_ | refine then_exit ?_ | refine loopS_exit ?_ | refine loopS_ret ?_ | refine cutB_ret ?_ | refine cutN_ret ?_ | refine cutN_exit ?_ | refine block_exit ?_ | (refine block_other ?_ ?_; exact rfl) | (refine xc_true ?_ ?_; exact rfl) | (refine xc_false ?_ ?_; exact rfl) | ((with_reducible apply xs_guard); exact rfl; exact rfl; intro c hc; (fail_if_success (have : true = c := hc)); (fail_if_success (have : false = c := hc)); cases c) | (refine xc_if rfl (fun hc => ?_) (fun hc => ?_)) | (refine xc_cond rfl (fun hc => ?_) (fun hc => ?_)))
      first | refine rt (hq := ?_) | refine rt' (hq := ?_)
      exact hm2
end Go.Proofs.YtjooegonmdmajaaX
