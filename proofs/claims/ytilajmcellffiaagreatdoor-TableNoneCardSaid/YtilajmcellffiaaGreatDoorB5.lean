/- A part of the proof: what its functions compute. -/
import Derived.Test.YtilajmcellffiaaGreatDoorB4
set_option linter.unusedVariables false
set_option linter.unusedSimpArgs false
set_option maxRecDepth 100000
namespace Go.Proofs.YtilajmcellffiaaGreatDoorX
open Go Go.RowKit
attribute [local irreducible] XS XC XA thenE blockE retE loopE loopS cutB cutN doneE SE
theorem Obj6.only {w w' : World} {tb : Nat} {t : RB Int} {F : List Nat} (h : Obj6 w tb t F) (ho : Only [] w w') : Obj6 w' tb t F := by
  obtain ⟨p, fp, h1, h2, h3, h4⟩ := h
  exact ⟨p, fp, h1, ho.block h2 (by simp), h3.keep ho (Nodes.nil w) (by simp), h4⟩
def New (w0 : World) (F : List Nat) : Prop := ∀ k ∈ F, w0.heap.size ≤ k
theorem New.step {w0 w : World} {F F' : List Nat} (h : New w0 F) (ho : Only [] w0 w) (hs : ∀ k ∈ F', k ∈ F ∨ w.heap.size ≤ k) : New w0 F' := fun k hk => by
  have := ho.size
  rcases hs k hk with h' | h'
  · exact h k h'
  · omega
theorem Only.news {w0 w w' : World} {F : List Nat} (ho : Only [] w0 w) (h : New w0 F) (ho' : Only F w w') : Only [] w0 w' := ho.step ho' fun k hk => .inr (h k hk)
set_option maxHeartbeats 1000000 in
theorem awake6_ret (w0 : World) : Ret Tryz.prog 268 #[] w0 fun v w' => v = .bool true ∧ Only [] w0 w' := by
  have hs := St.nil w0
  refine ret_of_xc Tryz.func268 (by kernel_rfl) rfl Tryz.ntmps268 rfl rfl rfl ?_
  repeat' (first|refine vs (k:=?_)|refine qRg ?_|refine Nx.h ?_|fail)
  (with_reducible apply xs_call); exact rfl; exact rfl; exact rbNew_ret _
  rintro v w1 ⟨tb, F0, rfl, h0, hn, ho⟩
  have o0 : Only [] w0 w1 := (hs.only0 rfl).step ho (by simp)
  have n0 : New w0 F0 := fun k hk => Nat.le_trans (hs.only0 rfl).size (hn k hk)
  clear hs
  have hs := St.nil w1
  repeat' (first|refine vs (k:=?_)|refine qRg ?_|refine Nx.h ?_|refine qCf ?_|fail)
  have oo := hs.only0 rfl
  (with_reducible apply xs_call); exact rfl; exact rfl; exact rbInsert_ret tb .nil F0 3 _ (h0.only oo) (by decide)
  rintro v w2 ⟨rfl, F1, h1, s1, o1⟩
  have n1 := n0.step (o0.step oo (by simp)) s1
  have o2 := (o0.step oo (by simp)).news n0 o1
  rw [show RB.has ltI 3 (RB.nil : RB Int) = false from rfl]
  clear hs oo
  have hs := St.nil w2
  repeat' (first|refine vs (k:=?_)|fail)
  have oo := hs.only0 rfl
  (with_reducible apply xs_call); exact rfl; exact rfl; exact rbInsert_ret tb _ F1 1 _ (h1.only oo) (by decide)
  rintro v w3 ⟨rfl, F2, h2, s2, o3⟩
  have n2 := n1.step (o2.step oo (by simp)) s2
  have o4 := (o2.step oo (by simp)).news n1 o3
  rw [show RB.has ltI 1 (RB.insert RB.nil 3) = false by decide]
  clear hs oo
  have hs := St.nil w3
  repeat' (first|refine vs (k:=?_)|fail)
  have oo := hs.only0 rfl
  (with_reducible apply xs_call); exact rfl; exact rfl; exact rbInsert_ret tb _ F2 2 _ (h2.only oo) (by decide)
  rintro v w4 ⟨rfl, F3, h3, s3, o5⟩
  have n3 := n2.step (o4.step oo (by simp)) s3
  have o6 := (o4.step oo (by simp)).news n2 o5
  rw [show RB.has ltI 2 (RB.insert (RB.insert RB.nil 3) 1) = false by decide]
  have el : (RB.insert (RB.insert (RB.insert RB.nil 3) 1) 2).list = [1, 2, 3] := by decide
  have ed : (RB.insert (RB.insert (RB.insert RB.nil 3) 1) 2).depth = 2 := by decide
  generalize RB.insert (RB.insert (RB.insert RB.nil 3) 1) 2 = t at *
  clear hs oo
  have hs := St.nil w4
  repeat' (first|refine vs (k:=?_)|refine qRg ?_|refine Nx.h ?_|fail)
  (with_reducible apply xs_call); exact rfl; exact rfl; exact rbAll_ret tb t F3 _ (h3.only (hs.only0 rfl)) (by rw [el]; decide)
  rintro v w' ⟨hd, ho⟩; replace hs := hs.call0 ho
  rw [el] at hd
  obtain ⟨ad, cp, rfl, _⟩ := id hd
  obtain ⟨R, hs, hd⟩ := hd.read hs rfl
  refine bs hs (k := ?_); intro b w hz hs
  skip
  have hb := hs.get At.head
  (with_reducible apply xs_call); exact rfl; exact rfl; exact equal_ret _ _ [1, 2, 3] [1, 2, 3] (by decide) _ (hd _ (fun e he => hs.ro e (by simp [he]))) ⟨some ⟨b, 0, none⟩, 3, rfl, fun _ => ⟨b, 0, _, _, rfl, Nat.le_refl _, hb, fun i d h => by match i, h with | 0, h => simpa using h | 1, h => simpa using h | 2, h => simpa using h | i + 3, h => simp at h⟩⟩
  rintro v w' ⟨rfl, ho⟩; replace hs := hs.call0 ho
  rw [show decide (([1, 2, 3] : List Int) = [1, 2, 3]) = true from rfl]
  repeat' (first|refine vs (k:=?_)|fail)
  (with_reducible apply xs_call); exact rfl; exact rfl; exact rbDepth_ret tb t F3 _ (h3.only (hs.only0 rfl)) (by rw [el]; decide)
  rintro v w' ⟨rfl, ho⟩; replace hs := hs.call0 ho
  rw [ed]
  repeat' (first|refine vs (k:=?_)|refine Nx.h ?_|fail)
  first | refine rt (hq := ?_) | refine rt' (hq := ?_)
  exact ⟨rfl, o6.step (hs.only0 rfl) (by simp)⟩
end Go.Proofs.YtilajmcellffiaaGreatDoorX

namespace Go.Proofs.YtilajmcellffiaaGreatDoorX.IB
open Go Go.RowKit
attribute [local irreducible] XS XC XA thenE blockE retE loopE loopS cutB cutN doneE SE
abbrev IT := {a : It // a.In}
def ltT (x y : IT) : Bool := ahead x.1 y.1
def snr (x y : IT) : IT := bif due y.1 x.1 then y else x
def all? : RB IT → Option IT
  | .nil => none
  | .node l x r _ => some (match all? r with | none => (match all? l with | none => x | some a => snr a x) | some b => snr (match all? l with | none => x | some a => snr a x) b)
def allN (l : RB IT) (x : IT) (r : RB IT) : IT := match all? r with | none => (match all? l with | none => x | some a => snr a x) | some b => snr (match all? l with | none => x | some a => snr a x) b
abbrev nodeO (x : IT) (a : It) (pl pr : Option Addr) (c : Bool) : Obj := .cells #[.int .u64 x.1.p.t, .int .u32 x.1.p.r, .int .u32 x.1.p.w, .int .i64 x.1.id, .int .u64 x.1.d.t, .int .u32 x.1.d.r, .int .u32 x.1.d.w, .int .u64 a.p.t, .int .u32 a.p.r, .int .u32 a.p.w, .int .i64 a.id, .int .u64 a.d.t, .int .u32 a.d.r, .int .u32 a.d.w, .pointer pl, .pointer pr, .bool c] 221 (0, 0)
abbrev treeO (p : Option Addr) (n : Int) : Obj := .cells #[.pointer p, .int .i64 n, .func (.func 133) #[] #[], .func (.func 134) #[] #[], .func (.func 135) #[] #[]] 189 (0, 0)
def SAt (_ : World) (av : It) (l : RB IT) (x : IT) (r : RB IT) : Prop := av = (allN l x r).1
theorem ahd_ret (x y : IT) (w0 : World) : Ret Tryz.prog 133 #[iv x.1, iv y.1] w0 fun v w' => v = .bool (ltT x y) ∧ Only [] w0 w' := ahead_ret x.1 y.1 x.2 y.2 w0
theorem itself_ret (a : It) (w0 : World) : Ret Tryz.prog 134 #[iv a] w0 fun v w' => v = iv a ∧ Only [] w0 w' := by
  have hs := St.nil w0
  refine ret_of_xc Tryz.func134 (by kernel_rfl) rfl Tryz.ntmps134 rfl rfl rfl ?_
  repeat' (first|refine vs (k:=?_)|(refine stA hs (k:=?_);intro w hs)|(refine al hs (k:=?_);intro b w hz hs)|(refine bx hs (k:=?_);intro b w hz hs)|refine qRg ?_|refine Nx.h ?_|fail)
  first | refine rt (hq := ?_) | refine rt' (hq := ?_)
  exact ⟨rfl, hs.only0 rfl⟩
theorem its_one {w : World} {b : Nat} {a : It} (hb : w.heap[b]? = some (.cells a.cells.toArray 29 (0, 0))) : ItsAt w (.slice (some ⟨b, 0, none⟩) 1 1) [a] :=
  ⟨_, 1, rfl, fun _ => ⟨b, 0, _, (0, 0), rfl, Nat.le_refl _, hb, fun i x h => by
    cases i with
    | zero =>
      simp only [List.map_cons, List.getElem?_cons_zero, Option.some.injEq] at h
      subst h
      exact pick_of rfl rfl
    | succ i => simp at h⟩⟩
theorem sooner_ret (x y : IT) (w0 : World) : Ret Tryz.prog 135 #[iv x.1, iv y.1] w0 fun v w' => v = iv (snr x y).1 ∧ Only [] w0 w' := by
  have e : soonest x.1 [y.1] = (snr x y).1 := by unfold soonest snr; simp only [List.foldl_cons, List.foldl_nil]; cases due y.1 x.1 <;> rfl
  have hs := St.nil w0
  refine ret_of_xc Tryz.func135 (by kernel_rfl) rfl Tryz.ntmps135 rfl rfl rfl ?_
  repeat' (first|refine vs (k:=?_)|(refine al hs (k:=?_);intro b w hz hs)|(refine bx hs (k:=?_);intro b w hz hs)|(refine bs hs (k:=?_);intro b w hz hs)|refine qRg ?_|refine Nx.h ?_|fail)
  (with_reducible apply xs_call); exact rfl; exact rfl; exact soonest_ret x.1 [y.1] _ x.2 (by simp; exact y.2) (by simp) _ (its_one (hs.get At.head))
  rw [e]
  rintro v w' ⟨rfl, ho⟩; replace hs := hs.call0 ho; repeat' (first|(refine stA hs (k:=?_);intro w hs)|refine Nx.h ?_|fail)
  first | refine rt (hq := ?_) | refine rt' (hq := ?_)
  exact ⟨rfl, hs.only0 rfl⟩
end Go.Proofs.YtilajmcellffiaaGreatDoorX.IB

namespace Go.Proofs.YtilajmcellffiaaGreatDoorX.IB
open Go Go.RowKit
theorem SAt.keep {w w' : World} {av : It} {l : RB IT} {x : IT} {r : RB IT} {F : List Nat} (h : SAt w av l x r) (_ : Only F w w') {q : Prop} (_ : q) : SAt w' av l x r := h
def TreeAt (w : World) : RB IT → Option Addr → List Nat → Prop
  | .nil, p, fp => p = none ∧ fp = []
  | .node l x r c, p, fp => ∃ b av pl pr fl fr, p = some ⟨b, 0, none⟩ ∧ fp = b :: (fl ++ fr) ∧ w.heap[b]? = some (nodeO x av pl pr c) ∧ SAt w av l x r ∧ TreeAt w l pl fl ∧ TreeAt w r pr fr
def StaleAt (w : World) (l : RB IT) (x : IT) (r : RB IT) (c : Bool) (p : Option Addr) (fp : List Nat) : Prop :=
  ∃ b av pl pr fl fr, p = some ⟨b, 0, none⟩ ∧ fp = b :: (fl ++ fr) ∧ w.heap[b]? = some (nodeO x av pl pr c) ∧ TreeAt w l pl fl ∧ TreeAt w r pr fr
theorem TreeAt.stale {w : World} {l : RB IT} {x : IT} {r : RB IT} {c : Bool} {p : Option Addr} {fp : List Nat} (h : TreeAt w (.node l x r c) p fp) : StaleAt w l x r c p fp := by
  obtain ⟨b, av, pl, pr, fl, fr, h1, h2, h3, h4, h5, h6⟩ := h
  exact ⟨b, av, pl, pr, fl, fr, h1, h2, h3, h5, h6⟩
def Nodes (w : World) (F : List Nat) : Prop := ∀ b ∈ F, ∃ cs fz, w.heap[b]? = some (.cells cs 221 fz)
theorem Nodes.nil (w : World) : Nodes w [] := fun b h => by cases h
theorem Nodes.append {w : World} {F G : List Nat} (h : Nodes w F) (k : Nodes w G) : Nodes w (F ++ G) := fun b hb => by
  rcases List.mem_append.1 hb with hb | hb
  · exact h b hb
  · exact k b hb
theorem Nodes.cons {w : World} {F : List Nat} {b : Nat} {cs : Array Value} {fz : Nat × Nat} (h : w.heap[b]? = some (.cells cs 221 fz)) (k : Nodes w F) : Nodes w (b :: F) := fun b' hb => by
  rcases List.mem_cons.1 hb with rfl | hb
  · exact ⟨_, _, h⟩
  · exact k b' hb
theorem TreeAt.nodes {w : World} : ∀ {t : RB IT} {p : Option Addr} {fp : List Nat}, TreeAt w t p fp → Nodes w fp
  | .nil, p, fp, ⟨_, h⟩ => by subst h; exact Nodes.nil w
  | .node l x r c, p, fp, ⟨b, av, pl, pr, fl, fr, h1, h2, h3, h4, h5, h6⟩ => by
    subst h2
    exact .cons h3 (h5.nodes.append h6.nodes)
theorem StaleAt.nodes {w : World} {l : RB IT} {x : IT} {r : RB IT} {c : Bool} {p : Option Addr} {fp : List Nat} (h : StaleAt w l x r c p fp) : Nodes w fp := by
  obtain ⟨b, av, pl, pr, fl, fr, h1, h2, h3, h5, h6⟩ := h
  subst h2
  exact .cons h3 (h5.nodes.append h6.nodes)
theorem TreeAt.keep {w w' : World} {F : List Nat} (ho : Only F w w') (hF : Nodes w F) : ∀ {t : RB IT} {p : Option Addr} {fp : List Nat}, TreeAt w t p fp → (∀ b ∈ fp, b ∉ F) → TreeAt w' t p fp
  | .nil, p, fp, h, _ => h
  | .node l x r c, p, fp, ⟨b, av, pl, pr, fl, fr, h1, h2, h3, h4, h5, h6⟩, hd => by
    subst h2
    exact ⟨b, av, pl, pr, fl, fr, h1, rfl, ho.block h3 (hd b List.mem_cons_self), h4.keep ho hF, TreeAt.keep ho hF h5 fun k hk => hd k (List.mem_cons_of_mem _ (List.mem_append_left _ hk)),
      TreeAt.keep ho hF h6 fun k hk => hd k (List.mem_cons_of_mem _ (List.mem_append_right _ hk))⟩
theorem head_keep {w w' : World} {F : List Nat} {tb : Nat} {p : Option Addr} {n : Int} (h : w.heap[tb]? = some (treeO p n)) (ho : Only F w w') (hF : Nodes w F) : w'.heap[tb]? = some (treeO p n) :=
  ho.block h fun hb => by
    obtain ⟨cs', fz', h5⟩ := hF tb hb
    rw [h] at h5
    cases h5
end Go.Proofs.YtilajmcellffiaaGreatDoorX.IB

namespace Go.Proofs.YtilajmcellffiaaGreatDoorX.IB
open Go Go.RowKit
attribute [local irreducible] XS XC XA thenE blockE retE loopE loopS cutB cutN doneE SE
theorem isRed_ret (t : RB IT) (p : Option Addr) (fp : List Nat) (w0 : World) (h : TreeAt w0 t p fp) : Ret Tryz.prog 177 #[.pointer p] w0 fun v w' => v = .bool t.red ∧ Only [] w0 w' := by
  have hs := St.nil w0
  cases t with
  | nil =>
    obtain ⟨rfl, rfl⟩ := h
    refine ret_of_xc Tryz.func177 (by kernel_rfl) rfl Tryz.ntmps177 rfl rfl rfl ?_
    repeat' (first|refine vs (k:=?_)|refine ps (k:=?_)|refine qRg ?_|refine Nx.h ?_|fail)
    first | refine rt (hq := ?_) | refine rt' (hq := ?_)
    exact ⟨rfl, hs.only0 rfl⟩
  | node l x r c =>
    obtain ⟨b, av, pl, pr, fl, fr, rfl, h2, h3, h4, h5, h6⟩ := h
    replace hs := hs.track h3 (by simp)
    refine ret_of_xc Tryz.func177 (by kernel_rfl) rfl Tryz.ntmps177 rfl rfl rfl ?_
    repeat' (first|refine vs (k:=?_)|refine qRg ?_|refine Nx.h ?_|fail)
    first | refine rt (hq := ?_) | refine rt' (hq := ?_)
    exact ⟨rfl, hs.onlyF [] (by simp [h3]) (by simp [D0])⟩
theorem head_ne {w : World} {tb b : Nat} {p : Option Addr} {n : Int} {cs : Array Value} {fz : Nat × Nat} (h : w.heap[tb]? = some (treeO p n)) (k : w.heap[b]? = some (.cells cs 221 fz)) : b ≠ tb := fun e => by
  subst e
  rw [h] at k
  cases k
set_option maxHeartbeats 1000000 in
theorem rbSum_ret (tb : Nat) (p0 : Option Addr) (n0 : Int) (l : RB IT) (x : IT) (r : RB IT) (c : Bool) (p : Option Addr) (fp : List Nat) (w0 : World) (hT : w0.heap[tb]? = some (treeO p0 n0)) (h : StaleAt w0 l x r c p fp) (hnd : fp.Nodup) (hlen : (l.list ++ x :: r.list).length ≤ 1000000) :
    Ret Tryz.prog 232 #[.pointer (some ⟨tb, 0, none⟩), .pointer p] w0 fun v w' => TreeAt w' (.node l x r c) p fp ∧ Only fp w0 w' := by
  obtain ⟨b, av, pl, pr, fl, fr, rfl, rfl, hb, hl, hr⟩ := h
  have hbt := head_ne hT hb
  obtain ⟨hnb, hnd2⟩ := List.nodup_cons.1 hnd
  have hnl : ∀ k ∈ fl, k ∉ [b] := fun k hk hm => by
    obtain rfl := List.mem_singleton.1 hm
    exact hnb (List.mem_append_left _ hk)
  have hnr : ∀ k ∈ fr, k ∉ [b] := fun k hk hm => by
    obtain rfl := List.mem_singleton.1 hm
    exact hnb (List.mem_append_right _ hk)
  have hlr : ∀ k ∈ fl, k ∉ fr := fun k hk hm => (List.nodup_append.1 hnd2).2.2 k hk k hm rfl
  have hNb : Nodes w0 [b] := Nodes.cons hb (Nodes.nil w0)
  have fin : ∀ (w' : World) (av' : It), w'.heap[b]? = some (nodeO x av' pl pr c) → SAt w' av' l x r → Only [b] w0 w' → TreeAt w' (.node l x r c) (some ⟨b, 0, none⟩) (b :: (fl ++ fr)) ∧ Only (b :: (fl ++ fr)) w0 w' := fun w' av' h1 h2 ho =>
    ⟨⟨b, av', pl, pr, fl, fr, rfl, rfl, h1, h2, hl.keep ho hNb hnl, hr.keep ho hNb hnr⟩, ho.weaken fun k hk => by obtain rfl := List.mem_singleton.1 hk; exact List.mem_cons_self⟩
  clear hnd
  have hs := St.nil w0
  replace hs := hs.track hT (by simp)
  replace hs := hs.track hb (by simpa using hbt)
  cases l with
  | nil =>
    cases r with
    | nil =>
      obtain ⟨rfl, rfl⟩ := hl
      obtain ⟨rfl, rfl⟩ := hr
      refine ret_of_xc Tryz.func232 (by kernel_rfl) rfl Tryz.ntmps232 rfl rfl rfl ?_
      repeat' (first|refine Nx.h ?_|fail)
      refine dr [12] hs (k := ?_); intro hX w hs
      refine tk 0 hX (k := ?_)
      refine tk 1 hX (k := ?_)
      refine tk 2 hX (k := ?_)
      refine tk 3 hX (k := ?_)
      refine tk 4 hX (k := ?_)
      refine tk 5 hX (k := ?_)
      refine tk 6 hX (k := ?_)
      refine tk 7 hX (k := ?_)
      refine tk 8 hX (k := ?_)
      refine dt 9 hX (k := ?_)
      (with_reducible apply xs_call); exact rfl; exact rfl; exact itself_ret x.1 _
      rintro v w' ⟨rfl, ho⟩; replace hs := hs.call0 ho; repeat' (first|refine Nx.h ?_|fail)
      refine dn (k := ?_)
      refine tk 10 hX (k := ?_)
      refine tk 11 hX (k := ?_)
      refine dt 12 hX (k := ?_)
      repeat' (first|(refine stA hs (k:=?_);intro w hs)|refine Nx.h ?_|fail)
      refine dn (k := ?_)
      refine en (k := ?_)
      repeat' (first|refine vs (k:=?_)|refine qRg ?_|refine Nx.h ?_|refine qCf ?_|fail)
      first | refine rt' (vs := []) (hr := resOk_nil) (hq := ?_) | refine rt (vs := []) (hr := resOk_nil) (hq := ?_)
      exact fin _ _ (hs.get At.head) rfl (hs.onlyF [b] (by simp [hT]) (by simp [D0]))
    | node rl rx rr rc =>
      obtain ⟨rfl, rfl⟩ := hl
      obtain ⟨rb, rav, rpl, rpr, rfl', rfr, rfl, rfl, hrb, hrav, hrl, hrr'⟩ := hr
      have hrav' : rav = (allN rl rx rr).1 := hrav
      subst hrav'
      have hrt := head_ne hT hrb
      have hbrb : rb ≠ b := fun e => by subst e; exact hnr _ List.mem_cons_self List.mem_cons_self
      replace hs := hs.track hrb (by simp [hrt, hbrb])
      refine ret_of_xc Tryz.func232 (by kernel_rfl) rfl Tryz.ntmps232 rfl rfl rfl ?_
      repeat' (first|refine Nx.h ?_|fail)
      refine dr [12] hs (k := ?_); intro hX w hs
      refine tk 0 hX (k := ?_)
      refine tk 1 hX (k := ?_)
      refine tk 2 hX (k := ?_)
      refine tk 3 hX (k := ?_)
      refine tk 4 hX (k := ?_)
      refine tk 5 hX (k := ?_)
      refine tk 6 hX (k := ?_)
      refine tk 7 hX (k := ?_)
      refine tk 8 hX (k := ?_)
      refine dt 9 hX (k := ?_)
      (with_reducible apply xs_call); exact rfl; exact rfl; exact itself_ret x.1 _
      rintro v w' ⟨rfl, ho⟩; replace hs := hs.call0 ho; repeat' (first|refine Nx.h ?_|fail)
      refine dn (k := ?_)
      refine tk 10 hX (k := ?_)
      refine tk 11 hX (k := ?_)
      refine dt 12 hX (k := ?_)
      repeat' (first|(refine stA hs (k:=?_);intro w hs)|refine Nx.h ?_|fail)
      refine dn (k := ?_)
      refine en (k := ?_)
      repeat' (first|refine vs (k:=?_)|refine qRg ?_|refine Nx.h ?_|refine qCt ?_|refine qCf ?_|fail)
      refine dr [19] hs (k := ?_); intro hX w hs
      refine tk 0 hX (k := ?_)
      refine tk 1 hX (k := ?_)
      refine tk 2 hX (k := ?_)
      refine tk 3 hX (k := ?_)
      refine tk 4 hX (k := ?_)
      refine tk 5 hX (k := ?_)
      refine tk 6 hX (k := ?_)
      refine tk 7 hX (k := ?_)
      refine tk 8 hX (k := ?_)
      refine tk 9 hX (k := ?_)
      refine tk 10 hX (k := ?_)
      refine tk 11 hX (k := ?_)
      refine tk 12 hX (k := ?_)
      refine tk 13 hX (k := ?_)
      refine tk 14 hX (k := ?_)
      refine tk 15 hX (k := ?_)
      refine dt 16 hX (k := ?_)
      (with_reducible apply xs_call); exact rfl; exact rfl; exact sooner_ret x (allN rl rx rr) _
      rintro v w' ⟨rfl, ho⟩; replace hs := hs.call0 ho; repeat' (first|refine Nx.h ?_|fail)
      refine dn (k := ?_)
      refine tk 17 hX (k := ?_)
      refine tk 18 hX (k := ?_)
      refine dt 19 hX (k := ?_)
      repeat' (first|(refine stA hs (k:=?_);intro w hs)|refine Nx.h ?_|fail)
      refine dn (k := ?_)
      refine en (k := ?_)
      skip
      first | refine rt' (vs := []) (hr := resOk_nil) (hq := ?_) | refine rt (vs := []) (hr := resOk_nil) (hq := ?_)
      exact fin _ _ (hs.get (At.tail At.head)) rfl (hs.onlyF [b] (by simp [hT, hrb]) (by simp [D0]))
  | node ll lx lr lc =>
    cases r with
    | nil =>
      obtain ⟨lb, lav, lpl, lpr, lfl, lfr, rfl, rfl, hlb, hlav, hll, hlr'⟩ := hl
      have hlav' : lav = (allN ll lx lr).1 := hlav
      subst hlav'
      have hlt := head_ne hT hlb
      have hblb : lb ≠ b := fun e => by subst e; exact hnl _ List.mem_cons_self List.mem_cons_self
      replace hs := hs.track hlb (by simp [hlt, hblb])
      obtain ⟨rfl, rfl⟩ := hr
      refine ret_of_xc Tryz.func232 (by kernel_rfl) rfl Tryz.ntmps232 rfl rfl rfl ?_
      repeat' (first|refine Nx.h ?_|fail)
      refine dr [12] hs (k := ?_); intro hX w hs
      refine tk 0 hX (k := ?_)
      refine tk 1 hX (k := ?_)
      refine tk 2 hX (k := ?_)
      refine tk 3 hX (k := ?_)
      refine tk 4 hX (k := ?_)
      refine tk 5 hX (k := ?_)
      refine tk 6 hX (k := ?_)
      refine tk 7 hX (k := ?_)
      refine tk 8 hX (k := ?_)
      refine dt 9 hX (k := ?_)
      (with_reducible apply xs_call); exact rfl; exact rfl; exact itself_ret x.1 _
      rintro v w' ⟨rfl, ho⟩; replace hs := hs.call0 ho; repeat' (first|refine Nx.h ?_|fail)
      refine dn (k := ?_)
      refine tk 10 hX (k := ?_)
      refine tk 11 hX (k := ?_)
      refine dt 12 hX (k := ?_)
      repeat' (first|(refine stA hs (k:=?_);intro w hs)|refine Nx.h ?_|fail)
      refine dn (k := ?_)
      refine en (k := ?_)
      repeat' (first|refine vs (k:=?_)|refine qRg ?_|refine Nx.h ?_|refine qCt ?_|fail)
      refine dr [19] hs (k := ?_); intro hX w hs
      refine tk 0 hX (k := ?_)
      refine tk 1 hX (k := ?_)
      refine tk 2 hX (k := ?_)
      refine tk 3 hX (k := ?_)
      refine tk 4 hX (k := ?_)
      refine tk 5 hX (k := ?_)
      refine tk 6 hX (k := ?_)
      refine tk 7 hX (k := ?_)
      refine tk 8 hX (k := ?_)
      refine tk 9 hX (k := ?_)
      refine tk 10 hX (k := ?_)
      refine tk 11 hX (k := ?_)
      refine tk 12 hX (k := ?_)
      refine tk 13 hX (k := ?_)
      refine tk 14 hX (k := ?_)
      refine tk 15 hX (k := ?_)
      refine dt 16 hX (k := ?_)
      (with_reducible apply xs_call); exact rfl; exact rfl; exact sooner_ret (allN ll lx lr) x _
      rintro v w' ⟨rfl, ho⟩; replace hs := hs.call0 ho; repeat' (first|refine Nx.h ?_|fail)
      refine dn (k := ?_)
      refine tk 17 hX (k := ?_)
      refine tk 18 hX (k := ?_)
      refine dt 19 hX (k := ?_)
      repeat' (first|(refine stA hs (k:=?_);intro w hs)|refine Nx.h ?_|fail)
      refine dn (k := ?_)
      refine en (k := ?_)
      repeat' (first|refine vs (k:=?_)|refine qRg ?_|refine Nx.h ?_|refine qCf ?_|fail)
      first | refine rt' (vs := []) (hr := resOk_nil) (hq := ?_) | refine rt (vs := []) (hr := resOk_nil) (hq := ?_)
      exact fin _ _ (hs.get (At.tail At.head)) rfl (hs.onlyF [b] (by simp [hT, hlb]) (by simp [D0]))
    | node rl rx rr rc =>
      obtain ⟨lb, lav, lpl, lpr, lfl, lfr, rfl, rfl, hlb, hlav, hll, hlr'⟩ := hl
      have hlav' : lav = (allN ll lx lr).1 := hlav
      subst hlav'
      have hlt := head_ne hT hlb
      have hblb : lb ≠ b := fun e => by subst e; exact hnl _ List.mem_cons_self List.mem_cons_self
      replace hs := hs.track hlb (by simp [hlt, hblb])
      obtain ⟨rb, rav, rpl, rpr, rfl', rfr, rfl, rfl, hrb, hrav, hrl, hrr'⟩ := hr
      have hrav' : rav = (allN rl rx rr).1 := hrav
      subst hrav'
      have hrt := head_ne hT hrb
      have hbrb : rb ≠ b := fun e => by subst e; exact hnr _ List.mem_cons_self List.mem_cons_self
      have hrlb : rb ≠ lb := fun e => by subst e; exact hlr _ List.mem_cons_self List.mem_cons_self
      replace hs := hs.track hrb (by simp [hrt, hbrb, hrlb])
      refine ret_of_xc Tryz.func232 (by kernel_rfl) rfl Tryz.ntmps232 rfl rfl rfl ?_
      repeat' (first|refine Nx.h ?_|fail)
      refine dr [12] hs (k := ?_); intro hX w hs
      refine tk 0 hX (k := ?_)
      refine tk 1 hX (k := ?_)
      refine tk 2 hX (k := ?_)
      refine tk 3 hX (k := ?_)
      refine tk 4 hX (k := ?_)
      refine tk 5 hX (k := ?_)
      refine tk 6 hX (k := ?_)
      refine tk 7 hX (k := ?_)
      refine tk 8 hX (k := ?_)
      refine dt 9 hX (k := ?_)
      (with_reducible apply xs_call); exact rfl; exact rfl; exact itself_ret x.1 _
      rintro v w' ⟨rfl, ho⟩; replace hs := hs.call0 ho; repeat' (first|refine Nx.h ?_|fail)
      refine dn (k := ?_)
      refine tk 10 hX (k := ?_)
      refine tk 11 hX (k := ?_)
      refine dt 12 hX (k := ?_)
      repeat' (first|(refine stA hs (k:=?_);intro w hs)|refine Nx.h ?_|fail)
      refine dn (k := ?_)
      refine en (k := ?_)
      repeat' (first|refine vs (k:=?_)|refine qRg ?_|refine Nx.h ?_|refine qCt ?_|fail)
      refine dr [19] hs (k := ?_); intro hX w hs
      refine tk 0 hX (k := ?_)
      refine tk 1 hX (k := ?_)
      refine tk 2 hX (k := ?_)
      refine tk 3 hX (k := ?_)
      refine tk 4 hX (k := ?_)
      refine tk 5 hX (k := ?_)
      refine tk 6 hX (k := ?_)
      refine tk 7 hX (k := ?_)
      refine tk 8 hX (k := ?_)
      refine tk 9 hX (k := ?_)
      refine tk 10 hX (k := ?_)
      refine tk 11 hX (k := ?_)
      refine tk 12 hX (k := ?_)
      refine tk 13 hX (k := ?_)
      refine tk 14 hX (k := ?_)
      refine tk 15 hX (k := ?_)
      refine dt 16 hX (k := ?_)
      (with_reducible apply xs_call); exact rfl; exact rfl; exact sooner_ret (allN ll lx lr) x _
      rintro v w' ⟨rfl, ho⟩; replace hs := hs.call0 ho; repeat' (first|refine Nx.h ?_|fail)
      refine dn (k := ?_)
      refine tk 17 hX (k := ?_)
      refine tk 18 hX (k := ?_)
      refine dt 19 hX (k := ?_)
      repeat' (first|(refine stA hs (k:=?_);intro w hs)|refine Nx.h ?_|fail)
      refine dn (k := ?_)
      refine en (k := ?_)
      repeat' (first|refine vs (k:=?_)|refine qRg ?_|refine Nx.h ?_|refine qCt ?_|fail)
      refine dr [19] hs (k := ?_); intro hX w hs
      refine tk 0 hX (k := ?_)
      refine tk 1 hX (k := ?_)
      refine tk 2 hX (k := ?_)
      refine tk 3 hX (k := ?_)
      refine tk 4 hX (k := ?_)
      refine tk 5 hX (k := ?_)
      refine tk 6 hX (k := ?_)
      refine tk 7 hX (k := ?_)
      refine tk 8 hX (k := ?_)
      refine tk 9 hX (k := ?_)
      refine tk 10 hX (k := ?_)
      refine tk 11 hX (k := ?_)
      refine tk 12 hX (k := ?_)
      refine tk 13 hX (k := ?_)
      refine tk 14 hX (k := ?_)
      refine tk 15 hX (k := ?_)
      refine dt 16 hX (k := ?_)
      (with_reducible apply xs_call); exact rfl; exact rfl; exact sooner_ret (snr (allN ll lx lr) x) (allN rl rx rr) _
      rintro v w' ⟨rfl, ho⟩; replace hs := hs.call0 ho; repeat' (first|refine Nx.h ?_|fail)
      refine dn (k := ?_)
      refine tk 17 hX (k := ?_)
      refine tk 18 hX (k := ?_)
      refine dt 19 hX (k := ?_)
      repeat' (first|(refine stA hs (k:=?_);intro w hs)|refine Nx.h ?_|fail)
      refine dn (k := ?_)
      refine en (k := ?_)
      skip
      first | refine rt' (vs := []) (hr := resOk_nil) (hq := ?_) | refine rt (vs := []) (hr := resOk_nil) (hq := ?_)
      exact fin _ _ (hs.get (At.tail (At.tail At.head))) rfl (hs.onlyF [b] (by simp [hT, hlb, hrb]) (by simp [D0]))
end Go.Proofs.YtilajmcellffiaaGreatDoorX.IB

namespace Go.Proofs.YtilajmcellffiaaGreatDoorX.IB
open Go Go.RowKit
attribute [local irreducible] XS XC XA thenE blockE retE loopE loopS cutB cutN doneE SE
theorem Nodes.lt {w : World} {F : List Nat} (h : Nodes w F) : ∀ k ∈ F, k < w.heap.size := fun k hk => by
  obtain ⟨cs, fz, h⟩ := h k hk
  exact lt_of_block h
def Turned (w0 : World) (fp : List Nat) (t' : RB IT) (v : Value) (w' : World) : Prop :=
  ∃ p' fp', v = .pointer p' ∧ TreeAt w' t' p' fp' ∧ fp'.Nodup ∧ (∀ k ∈ fp', k ∈ fp ∨ w0.heap.size ≤ k) ∧ Only fp w0 w'
theorem toLeft_ret (tb : Nat) (p0 : Option Addr) (n0 : Int) (l : RB IT) (x : IT) (rl : RB IT) (y : IT) (rr : RB IT) (c c2 : Bool) (p : Option Addr) (fp : List Nat) (w0 : World) (hT : w0.heap[tb]? = some (treeO p0 n0)) (h : StaleAt w0 l x (.node rl y rr c2) c p fp) (hnd : fp.Nodup) (hlen : (l.list ++ x :: (rl.list ++ y :: rr.list)).length ≤ 1000000) :
    Ret Tryz.prog 233 #[.pointer (some ⟨tb, 0, none⟩), .pointer p] w0 fun v w' => Turned w0 fp (.node (.node l x rl true) y rr c) v w' := by
  obtain ⟨b, av, pl, pr, fl, fr, rfl, rfl, hb, hl, u, avu, prl, prr, frl, frr, rfl, rfl, hu, _, hrl, hrr⟩ := h
  have hp := perm_turn b u fl frl frr
  have hnd' := hp.nodup_iff.2 hnd
  have hNb : Nodes w0 [u, b] := Nodes.cons hu (Nodes.cons hb (Nodes.nil w0))
  simp only [List.length_append, List.length_cons] at hlen
  obtain ⟨d1, d2, d3, d4, d5, d6, d7, d8⟩ : u ≠ b ∧ (∀ k ∈ fl, k ∉ [u, b]) ∧ (∀ k ∈ frl, k ∉ [u, b]) ∧ (∀ k ∈ frr, k ∉ [u, b]) ∧ (b :: (fl ++ frl)).Nodup ∧ u ∉ b :: (fl ++ frl) ∧ (∀ k ∈ frr, k ∉ b :: (fl ++ frl)) ∧ (u :: ((b :: (fl ++ frl)) ++ frr)).Nodup := by
    simp only [List.cons_append, List.append_assoc, List.nodup_cons, List.nodup_append, List.mem_append, List.mem_cons, List.not_mem_nil, or_false] at hnd' ⊢
    grind
  have hs := St.nil w0
  replace hs := hs.track hb (by simp)
  replace hs := hs.track hu (by simpa using d1)
  refine ret_of_xc Tryz.func233 (by kernel_rfl) rfl Tryz.ntmps233 rfl rfl rfl ?_
  repeat' (first|refine vs (k:=?_)|(refine st hs (k:=?_);intro w hs)|refine qRg ?_|refine Nx.h ?_|fail)
  have ho1 : Only [u, b] w0 _ := hs.onlyF [u, b] (by simp) (by simp [D0])
  have hbw := hs.get (At.tail At.head)
  have huw := hs.get At.head
  have hlw := hl.keep ho1 hNb d2
  have hrlw := hrl.keep ho1 hNb d3
  have hrrw := hrr.keep ho1 hNb d4
  have hTw := head_keep hT ho1 hNb
  clear hs
  (with_reducible apply xs_call); exact rfl; exact rfl; exact rbSum_ret tb p0 n0 l x rl true _ _ _ hTw ⟨b, av, pl, prl, fl, frl, rfl, rfl, hbw, hlw, hrlw⟩ d5 (by simp only [List.length_append, List.length_cons]; omega)
  rintro v w' ⟨hT1, ho2⟩
  have hN2 : Nodes _ (b :: (fl ++ frl)) := StaleAt.nodes ⟨b, av, pl, prl, fl, frl, rfl, rfl, hbw, hlw, hrlw⟩
  have hu2 := ho2.block huw d6
  have hrr2 := hrrw.keep ho2 hN2 d7
  have hT2 := head_keep hTw ho2 hN2
  have hs := St.nil w'
  repeat' (first|refine vs (k:=?_)|refine qRg ?_|refine Nx.h ?_|fail)
  (with_reducible apply xs_call); exact rfl; exact rfl; exact rbSum_ret tb p0 n0 (.node l x rl true) y rr c _ _ _ hT2 ⟨u, avu, _, prr, _, frr, rfl, rfl, hu2, hT1, hrr2⟩ d8 (by simp only [RB.list, List.length_append, List.length_cons]; omega)
  rintro v w'' ⟨hT3, ho3⟩
  have hs := St.nil w''
  repeat' (first|refine vs (k:=?_)|refine qRg ?_|refine Nx.h ?_|fail)
  first | refine rt (hq := ?_) | refine rt' (hq := ?_)
  have e : ∀ k, k ∈ u :: ((b :: (fl ++ frl)) ++ frr) → k ∈ b :: (fl ++ (u :: (frl ++ frr))) := fun k hk => hp.mem_iff.1 hk
  have o1 : Only (b :: (fl ++ (u :: (frl ++ frr)))) w0 _ := ho1.weaken (by simp)
  have o2 := o1.step ho2 (fun k hk => .inl (e k (List.mem_cons_of_mem _ (List.mem_append_left _ hk))))
  exact ⟨_, _, rfl, hT3, d8, fun k hk => .inl (e k hk), o2.step ho3 (fun k hk => .inl (e k hk))⟩
theorem toRight_ret (tb : Nat) (p0 : Option Addr) (n0 : Int) (ll : RB IT) (y : IT) (lr : RB IT) (x : IT) (r : RB IT) (c c2 : Bool) (p : Option Addr) (fp : List Nat) (w0 : World) (hT : w0.heap[tb]? = some (treeO p0 n0)) (h : StaleAt w0 (.node ll y lr c2) x r c p fp) (hnd : fp.Nodup) (hlen : (ll.list ++ y :: (lr.list ++ x :: r.list)).length ≤ 1000000) :
    Ret Tryz.prog 217 #[.pointer (some ⟨tb, 0, none⟩), .pointer p] w0 fun v w' => Turned w0 fp (.node ll y (.node lr x r true) c) v w' := by
  obtain ⟨b, av, pl, pr, fl, fr, rfl, rfl, hb, ⟨u, avu, pll, plr, fll, flr, rfl, rfl, hu, _, hll, hlr⟩, hr⟩ := h
  have hp := (perm_turn u b fll flr fr).symm
  have hnd' := hp.nodup_iff.2 hnd
  have hNb : Nodes w0 [u, b] := Nodes.cons hu (Nodes.cons hb (Nodes.nil w0))
  simp only [List.length_append, List.length_cons] at hlen
  obtain ⟨d1, d2, d3, d4, d5, d6, d7, d8⟩ : u ≠ b ∧ (∀ k ∈ fr, k ∉ [u, b]) ∧ (∀ k ∈ flr, k ∉ [u, b]) ∧ (∀ k ∈ fll, k ∉ [u, b]) ∧ (b :: (flr ++ fr)).Nodup ∧ u ∉ b :: (flr ++ fr) ∧ (∀ k ∈ fll, k ∉ b :: (flr ++ fr)) ∧ (u :: (fll ++ (b :: (flr ++ fr)))).Nodup := by
    simp only [List.cons_append, List.append_assoc, List.nodup_cons, List.nodup_append, List.mem_append, List.mem_cons, List.not_mem_nil, or_false] at hnd' ⊢
    grind
  have hs := St.nil w0
  replace hs := hs.track hb (by simp)
  replace hs := hs.track hu (by simpa using d1)
  refine ret_of_xc Tryz.func217 (by kernel_rfl) rfl Tryz.ntmps217 rfl rfl rfl ?_
  repeat' (first|refine vs (k:=?_)|(refine st hs (k:=?_);intro w hs)|refine qRg ?_|refine Nx.h ?_|fail)
  have ho1 : Only [u, b] w0 _ := hs.onlyF [u, b] (by simp) (by simp [D0])
  have hbw := hs.get (At.tail At.head)
  have huw := hs.get At.head
  have hrw := hr.keep ho1 hNb d2
  have hlrw := hlr.keep ho1 hNb d3
  have hllw := hll.keep ho1 hNb d4
  have hTw := head_keep hT ho1 hNb
  clear hs
  (with_reducible apply xs_call); exact rfl; exact rfl; exact rbSum_ret tb p0 n0 lr x r true _ _ _ hTw ⟨b, av, plr, pr, flr, fr, rfl, rfl, hbw, hlrw, hrw⟩ d5 (by simp only [List.length_append, List.length_cons]; omega)
  rintro v w' ⟨hT1, ho2⟩
  have hN2 : Nodes _ (b :: (flr ++ fr)) := StaleAt.nodes ⟨b, av, plr, pr, flr, fr, rfl, rfl, hbw, hlrw, hrw⟩
  have hu2 := ho2.block huw d6
  have hll2 := hllw.keep ho2 hN2 d7
  have hT2 := head_keep hTw ho2 hN2
  have hs := St.nil w'
  repeat' (first|refine vs (k:=?_)|refine qRg ?_|refine Nx.h ?_|fail)
  (with_reducible apply xs_call); exact rfl; exact rfl; exact rbSum_ret tb p0 n0 ll y (.node lr x r true) c _ _ _ hT2 ⟨u, avu, pll, _, fll, _, rfl, rfl, hu2, hll2, hT1⟩ d8 (by simp only [RB.list, List.length_append, List.length_cons]; omega)
  rintro v w'' ⟨hT3, ho3⟩
  have hs := St.nil w''
  repeat' (first|refine vs (k:=?_)|refine qRg ?_|refine Nx.h ?_|fail)
  first | refine rt (hq := ?_) | refine rt' (hq := ?_)
  have e : ∀ k, k ∈ u :: (fll ++ (b :: (flr ++ fr))) → k ∈ b :: ((u :: (fll ++ flr)) ++ fr) := fun k hk => hp.mem_iff.1 hk
  have o1 : Only (b :: ((u :: (fll ++ flr)) ++ fr)) w0 _ := ho1.weaken (by simp)
  have o2 := o1.step ho2 (fun k hk => .inl (e k (List.mem_cons_of_mem _ (List.mem_append_right _ hk))))
  exact ⟨_, _, rfl, hT3, d8, fun k hk => .inl (e k hk), o2.step ho3 (fun k hk => .inl (e k hk))⟩
theorem rbFlip_ret (a : RB IT) (x : IT) (b : RB IT) (c1 : Bool) (y : IT) (d : RB IT) (z : IT) (e : RB IT) (c2 c : Bool) (p : Option Addr) (fp : List Nat) (w0 : World) (h : TreeAt w0 (.node (.node a x b c1) y (.node d z e c2) c) p fp) (hnd : fp.Nodup) :
    Ret Tryz.prog 234 #[.pointer p] w0 fun v w' => TreeAt w' (.node (.node a x b !c1) y (.node d z e !c2) !c) p fp ∧ Only fp w0 w' := by
  obtain ⟨m, av, _, _, _, _, rfl, rfl, hm, hav, ⟨u, avu, pa, pb, fa, fb, rfl, rfl, hu, hau, ha, hb⟩, ⟨v, avv, pd, pe, fd, fe, rfl, rfl, hv, hav2, hd, he⟩⟩ := h
  have hNb : Nodes w0 [v, u, m] := Nodes.cons hv (Nodes.cons hu (Nodes.cons hm (Nodes.nil w0)))
  obtain ⟨d1, d2, d3, d4, d5, d6, d7⟩ : u ≠ m ∧ v ≠ m ∧ v ≠ u ∧ (∀ k ∈ fa, k ∉ [v, u, m]) ∧ (∀ k ∈ fb, k ∉ [v, u, m]) ∧ (∀ k ∈ fd, k ∉ [v, u, m]) ∧ (∀ k ∈ fe, k ∉ [v, u, m]) := by
    simp only [List.cons_append, List.append_assoc, List.nodup_cons, List.nodup_append, List.mem_append, List.mem_cons, List.not_mem_nil, or_false] at hnd ⊢
    grind
  have hs := St.nil w0
  replace hs := hs.track hm (by simp)
  replace hs := hs.track hu (by simpa using d1)
  replace hs := hs.track hv (by simp [d2, d3])
  refine ret_of_xc Tryz.func234 (by kernel_rfl) rfl Tryz.ntmps234 rfl rfl rfl ?_
  repeat' (first|refine vs (k:=?_)|(refine st hs (k:=?_);intro w hs)|refine qRg ?_|refine Nx.h ?_|fail)
  refine dr [14] hs (k := ?_); intro hX w hs
  refine tk 0 hX (k := ?_)
  refine tk 1 hX (k := ?_)
  refine tk 2 hX (k := ?_)
  refine tk 3 hX (k := ?_)
  refine tk 4 hX (k := ?_)
  refine tk 5 hX (k := ?_)
  refine tk 6 hX (k := ?_)
  refine tk 7 hX (k := ?_)
  refine tk 8 hX (k := ?_)
  refine tk 9 hX (k := ?_)
  refine tk 10 hX (k := ?_)
  refine tk 11 hX (k := ?_)
  refine tk 12 hX (k := ?_)
  refine tk 13 hX (k := ?_)
  refine dt 14 hX (k := ?_)
  repeat' (first|(refine st hs (k:=?_);intro w hs)|refine Nx.h ?_|fail)
  refine dn (k := ?_)
  refine en (k := ?_)
  repeat' (first|refine Nx.h ?_|fail)
  refine dr [14] hs (k := ?_); intro hX w hs
  refine tk 0 hX (k := ?_)
  refine tk 1 hX (k := ?_)
  refine tk 2 hX (k := ?_)
  refine tk 3 hX (k := ?_)
  refine tk 4 hX (k := ?_)
  refine tk 5 hX (k := ?_)
  refine tk 6 hX (k := ?_)
  refine tk 7 hX (k := ?_)
  refine tk 8 hX (k := ?_)
  refine tk 9 hX (k := ?_)
  refine tk 10 hX (k := ?_)
  refine tk 11 hX (k := ?_)
  refine tk 12 hX (k := ?_)
  refine tk 13 hX (k := ?_)
  refine dt 14 hX (k := ?_)
  repeat' (first|(refine st hs (k:=?_);intro w hs)|refine Nx.h ?_|fail)
  refine dn (k := ?_)
  refine en (k := ?_)
  skip
  first | refine rt' (vs := []) (hr := resOk_nil) (hq := ?_) | refine rt (vs := []) (hr := resOk_nil) (hq := ?_)
  have ho1 : Only [v, u, m] w0 _ := hs.onlyF [v, u, m] (by simp) (by simp [D0])
  refine ⟨⟨m, av, _, _, _, _, rfl, rfl, hs.get (At.tail (At.tail At.head)), hav.keep ho1 hNb, ⟨u, avu, pa, pb, fa, fb, rfl, rfl, hs.get (At.tail At.head), hau.keep ho1 hNb, ha.keep ho1 hNb d4, hb.keep ho1 hNb d5⟩, ⟨v, avv, pd, pe, fd, fe, rfl, rfl, hs.get At.head, hav2.keep ho1 hNb, hd.keep ho1 hNb d6, he.keep ho1 hNb d7⟩⟩, ho1.weaken (by simp)⟩
end Go.Proofs.YtilajmcellffiaaGreatDoorX.IB

namespace Go.Proofs.YtilajmcellffiaaGreatDoorX.IB
open Go Go.RowKit
attribute [local irreducible] XS XC XA thenE blockE retE loopE loopS cutB cutN doneE SE
structure Has (w0 : World) (tb : Nat) (p0 : Option Addr) (n0 : Int) (fp : List Nat) (t : RB IT) (p : Option Addr) (w : World) : Prop where
  tree : ∃ fp', TreeAt w t p fp' ∧ fp'.Nodup ∧ (∀ k ∈ fp', k ∈ fp ∨ w0.heap.size ≤ k) ∧ Only fp w0 w
  head : w.heap[tb]? = some (treeO p0 n0)
theorem Has.only {w0 w w' : World} {tb : Nat} {p0 : Option Addr} {n0 : Int} {fp : List Nat} {t : RB IT} {p : Option Addr} (h : Has w0 tb p0 n0 fp t p w) (ho : Only [] w w') : Has w0 tb p0 n0 fp t p w' := by
  obtain ⟨⟨fp', h1, h2, h3, h4⟩, h5⟩ := h
  exact ⟨⟨fp', h1.keep ho (Nodes.nil w) (fun k _ => by simp), h2, h3, h4.step ho (by simp)⟩, head_keep h5 ho (Nodes.nil w)⟩
theorem Has.next {w0 w w' : World} {tb : Nat} {p0 : Option Addr} {n0 : Int} {fp fp1 : List Nat} {t t' : RB IT} {p : Option Addr} {v : Value} (h1 : TreeAt w t p fp1) (h2 : ∀ k ∈ fp1, k ∈ fp ∨ w0.heap.size ≤ k) (h3 : Only fp w0 w) (h4 : w.heap[tb]? = some (treeO p0 n0)) (k : Turned w fp1 t' v w') :
    ∃ p', v = .pointer p' ∧ Has w0 tb p0 n0 fp t' p' w' := by
  obtain ⟨p', fp', rfl, k1, k2, k3, k4⟩ := k
  refine ⟨p', rfl, ⟨fp', k1, k2, fun i hi => ?_, h3.step k4 h2⟩, head_keep h4 k4 h1.nodes⟩
  have := h3.size
  rcases k3 i hi with h | h
  · exact h2 i h
  · exact .inr (by omega)
theorem mend1_node (l : RB IT) (x : IT) (r : RB IT) (c : Bool) : ∃ l' x' r' c', RB.mend1 (.node l x r c) = .node l' x' r' c' := by
  unfold RB.mend1
  cases r with
  | nil => exact ⟨_, _, _, _, rfl⟩
  | node rl y rr d =>
    cases d <;> cases h : l.red <;> simp only [RB.right_node, RB.left_node, RB.red_node, h, Bool.not_true, Bool.not_false, Bool.and_true, Bool.and_false, Bool.and_self, cond_true, cond_false, RB.toLeft] <;> exact ⟨_, _, _, _, rfl⟩
theorem mend2_node (l : RB IT) (x : IT) (r : RB IT) (c : Bool) : ∃ l' x' r' c', RB.mend2 (.node l x r c) = .node l' x' r' c' := by
  unfold RB.mend2
  cases l with
  | nil => exact ⟨_, _, _, _, rfl⟩
  | node rl y rr d =>
    cases d <;> cases h : rl.red <;> simp only [RB.right_node, RB.left_node, RB.red_node, h, Bool.not_true, Bool.not_false, Bool.and_true, Bool.and_false, Bool.and_self, cond_true, cond_false, RB.toRight] <;> exact ⟨_, _, _, _, rfl⟩
set_option maxHeartbeats 2000000 in
theorem mend_ret (tb : Nat) (p0 : Option Addr) (n0 : Int) (l : RB IT) (x : IT) (r : RB IT) (c : Bool) (p : Option Addr) (fp : List Nat) (w0 : World) (hT : w0.heap[tb]? = some (treeO p0 n0)) (h : StaleAt w0 l x r c p fp) (hnd : fp.Nodup) (hlen : (l.list ++ x :: r.list).length ≤ 1000000) :
    Ret Tryz.prog 215 #[.pointer (some ⟨tb, 0, none⟩), .pointer p] w0 fun v w' => Turned w0 fp (RB.mend (.node l x r c)) v w' := by
  have hs := St.nil w0
  refine ret_of_xc Tryz.func215 (by kernel_rfl) rfl Tryz.ntmps215 rfl rfl rfl ?_
  repeat' (first|refine vs (k:=?_)|refine qRg ?_|refine Nx.h ?_|fail)
  clear hs
  (with_reducible apply xs_call); exact rfl; exact rfl; exact rbSum_ret tb p0 n0 l x r c _ _ _ hT h hnd hlen
  rintro v w1 ⟨hT1, ho1⟩
  have hH : Has w0 tb p0 n0 fp (.node l x r c) p w1 := ⟨⟨fp, hT1, hnd, fun k hk => .inl hk, ho1⟩, head_keep hT ho1 h.nodes⟩
  clear hT1 ho1
  refine XS.nil ?_
  refine then_of ?_
  refine xc_seq ?_
  refine xc_seq ?_
  refine xc_cutN (fun _ : Unit => [(0, .pointer (some ⟨tb, 0, none⟩)), (1, .pointer p), (4, .pointer none), (20, .bool (r.red && !l.red))]) (fun _ w => Has w0 tb p0 n0 fp (.node l x r c) p w) ?_ ?_
  · obtain ⟨⟨fp1, ⟨b, av, pl, pr, fl, fr, rfl, rfl, hb, hav, hl, hr⟩, hnd1, hsub, ho⟩, hd⟩ := hH
    have hH : Has w0 tb p0 n0 fp (.node l x r c) (some ⟨b, 0, none⟩) w1 := ⟨⟨_, ⟨b, av, pl, pr, fl, fr, rfl, rfl, hb, hav, hl, hr⟩, hnd1, hsub, ho⟩, hd⟩
    have hs := (St.nil w1).track hb (by simp)
    repeat' (first|refine vs (k:=?_)|refine qRg ?_|fail)
    have ho2 : Only [] w1 _ := hs.onlyF [] (by simp [hb]) (by simp [D0])
    (with_reducible apply xs_call); exact rfl; exact rfl; exact isRed_ret r pr fr _ (hr.keep ho2 (Nodes.nil _) (by simp))
    rintro v w' ⟨rfl, ho⟩; replace hs := hs.call0 ho
    generalize hq : r.red = q
    cases q
    · repeat' (first|refine vs (k:=?_)|refine ps (k:=?_)|refine Nx.h ?_|fail)
      exact cutN_normal () (by (repeat (first | exact agree_nil | (apply agree_cons; exact rfl)))) (hH.only (hs.onlyF [] (by simp [hb]) (by simp [D0])))
    · repeat' (first|refine vs (k:=?_)|fail)
      have ho2 : Only [] w1 _ := hs.onlyF [] (by simp [hb]) (by simp [D0])
      (with_reducible apply xs_call); exact rfl; exact rfl; exact isRed_ret l pl fl _ (hl.keep ho2 (Nodes.nil _) (by simp))
      rintro v w' ⟨rfl, ho⟩; replace hs := hs.call0 ho
      generalize hq2 : l.red = q2
      repeat' (first|refine vs (k:=?_)|refine Nx.h ?_|fail)
      exact cutN_normal () (by (repeat (first | exact agree_nil | (apply agree_cons; exact rfl)))) (hH.only (hs.onlyF [] (by simp [hb]) (by simp [D0])))
  clear hH
  rintro _ env w hH
  refine xc_cutN (fun s : Option Addr => [(0, .pointer (some ⟨tb, 0, none⟩)), (1, .pointer s), (4, .pointer none)]) (fun s w => Has w0 tb p0 n0 fp (RB.mend1 (.node l x r c)) s w) ?_ ?_
  · generalize hq : (r.red && !l.red) = q
    cases q
    · repeat' (first|refine Nx.h ?_|refine qCf ?_|fail)
      refine cutN_normal p (by (repeat (first | exact agree_nil | (apply agree_cons; exact rfl)))) ?_
      unfold RB.mend1
      rw [RB.right_node, RB.left_node, hq]
      exact hH
    · obtain ⟨⟨fp1, h1, h2, h3, h4⟩, h5⟩ := hH
      simp only [Bool.and_eq_true, Bool.not_eq_true'] at hq
      obtain ⟨rl, y, rr, rfl⟩ := RB.red_true hq.1
      have hs := St.nil w
      repeat' (first|refine vs (k:=?_)|refine qRg ?_|refine qCt ?_|fail)
      (with_reducible apply xs_call); exact rfl; exact rfl; exact toLeft_ret tb p0 n0 l x rl y rr c true _ _ _ h5 h1.stale h2 hlen
      rintro v w' hv
      obtain ⟨p', rfl, hH⟩ := Has.next h1 h3 h4 h5 hv
      have hs := St.nil w'
      repeat' (first|refine vs (k:=?_)|refine Nx.h ?_|fail)
      refine cutN_normal p' (by (repeat (first | exact agree_nil | (apply agree_cons; exact rfl)))) ?_
      unfold RB.mend1
      rw [RB.right_node, RB.left_node, RB.red_node, hq.2]
      exact hH
  obtain ⟨l1, x1, r1, c1, e1⟩ := mend1_node l x r c
  have hlen1 : (l1.list ++ x1 :: r1.list).length ≤ 1000000 := by
    have h1 : (RB.mend1 (.node l x r c)).list = l.list ++ x :: r.list := by
      unfold RB.mend1
      cases (RB.red _ && _) <;> simp only [cond_true, cond_false, RB.list_toLeft, RB.list]
    rw [e1] at h1
    rw [← h1] at hlen
    exact hlen
  rintro p1 env w hH
  rw [e1] at hH
  refine xc_seq ?_
  refine xc_seq ?_
  refine xc_cutN (fun _ : Unit => [(0, .pointer (some ⟨tb, 0, none⟩)), (1, .pointer p1), (4, .pointer none), (38, .bool (l1.red && l1.left.red))]) (fun _ w => Has w0 tb p0 n0 fp (.node l1 x1 r1 c1) p1 w) ?_ ?_
  · obtain ⟨⟨fp1, ⟨b, av, pl, pr, fl, fr, rfl, rfl, hb, hav, hl, hr⟩, hnd1, hsub, ho⟩, hd⟩ := hH
    have hH : Has w0 tb p0 n0 fp (.node l1 x1 r1 c1) (some ⟨b, 0, none⟩) w := ⟨⟨_, ⟨b, av, pl, pr, fl, fr, rfl, rfl, hb, hav, hl, hr⟩, hnd1, hsub, ho⟩, hd⟩
    cases hq : l1.red
    · have hs := (St.nil w).track hb (by simp)
      repeat' (first|refine vs (k:=?_)|refine qRg ?_|fail)
      have ho2 : Only [] w _ := hs.onlyF [] (by simp [hb]) (by simp [D0])
      (with_reducible apply xs_call); exact rfl; exact rfl; exact isRed_ret l1 pl fl _ (hl.keep ho2 (Nodes.nil _) (by simp))
      rintro v w' ⟨rfl, ho⟩; replace hs := hs.call0 ho
      rw [hq]
      repeat' (first|refine vs (k:=?_)|refine ps (k:=?_)|refine Nx.h ?_|fail)
      exact cutN_normal () (by (repeat (first | exact agree_nil | (apply agree_cons; exact rfl)))) (hH.only (hs.onlyF [] (by simp [hb]) (by simp [D0])))
    · obtain ⟨ll, y, lr, rfl⟩ := RB.red_true hq
      have hl0 := hl
      obtain ⟨u, avu, pll, plr, fll, flr, rfl, rfl, hu, hau, hll, hlr⟩ := hl
      have hub : u ≠ b := fun e => by
        subst e
        simp at hnd1
      have hs := ((St.nil w).track hb (by simp)).track hu (by simpa using hub)
      repeat' (first|refine vs (k:=?_)|refine qRg ?_|fail)
      have ho2 : Only [] w _ := hs.onlyF [] (by simp [hb, hu]) (by simp [D0])
      (with_reducible apply xs_call); exact rfl; exact rfl; exact isRed_ret _ _ _ _ (hl0.keep ho2 (Nodes.nil _) (by simp))
      rintro v w' ⟨rfl, ho⟩; replace hs := hs.call0 ho
      rw [hq]
      repeat' (first|refine vs (k:=?_)|fail)
      have ho2 : Only [] w _ := hs.onlyF [] (by simp [hb, hu]) (by simp [D0])
      (with_reducible apply xs_call); exact rfl; exact rfl; exact isRed_ret _ _ _ _ (hll.keep ho2 (Nodes.nil _) (by simp))
      rintro v w' ⟨rfl, ho⟩; replace hs := hs.call0 ho
      rw [RB.left_node]
      generalize hq2 : ll.red = q2
      repeat' (first|refine vs (k:=?_)|refine Nx.h ?_|fail)
      exact cutN_normal () (by (repeat (first | exact agree_nil | (apply agree_cons; exact rfl)))) (hH.only (hs.onlyF [] (by simp [hb, hu]) (by simp [D0])))
  clear hH
  rintro _ env w hH
  refine xc_cutN (fun s : Option Addr => [(0, .pointer (some ⟨tb, 0, none⟩)), (1, .pointer s), (4, .pointer none)]) (fun s w => Has w0 tb p0 n0 fp (RB.mend2 (.node l1 x1 r1 c1)) s w) ?_ ?_
  · generalize hq : (l1.red && l1.left.red) = q
    cases q
    · repeat' (first|refine Nx.h ?_|refine qCf ?_|fail)
      refine cutN_normal p1 (by (repeat (first | exact agree_nil | (apply agree_cons; exact rfl)))) ?_
      unfold RB.mend2
      rw [RB.left_node, hq]
      exact hH
    · obtain ⟨⟨fp1, h1, h2, h3, h4⟩, h5⟩ := hH
      simp only [Bool.and_eq_true] at hq
      obtain ⟨ll, y, lr, rfl⟩ := RB.red_true hq.1
      have hs := St.nil w
      repeat' (first|refine vs (k:=?_)|refine qRg ?_|refine qCt ?_|fail)
      (with_reducible apply xs_call); exact rfl; exact rfl; exact toRight_ret tb p0 n0 ll y lr x1 r1 c1 true _ _ _ h5 h1.stale h2 (by simpa [RB.list] using hlen1)
      rintro v w' hv
      obtain ⟨p', rfl, hH⟩ := Has.next h1 h3 h4 h5 hv
      have hs := St.nil w'
      repeat' (first|refine vs (k:=?_)|refine Nx.h ?_|fail)
      refine cutN_normal p' (by (repeat (first | exact agree_nil | (apply agree_cons; exact rfl)))) ?_
      unfold RB.mend2
      rw [RB.left_node, RB.red_node, hq.2]
      exact hH
  obtain ⟨l2, x2, r2, c2, e2⟩ := mend2_node l1 x1 r1 c1
  rintro p2 env w hH
  rw [e2] at hH
  refine xc_seq ?_
  refine xc_seq ?_
  refine xc_cutN (fun _ : Unit => [(0, .pointer (some ⟨tb, 0, none⟩)), (1, .pointer p2), (4, .pointer none), (53, .bool (l2.red && r2.red))]) (fun _ w => Has w0 tb p0 n0 fp (.node l2 x2 r2 c2) p2 w) ?_ ?_
  · obtain ⟨⟨fp1, ⟨b, av, pl, pr, fl, fr, rfl, rfl, hb, hav, hl, hr⟩, hnd1, hsub, ho⟩, hd⟩ := hH
    have hH : Has w0 tb p0 n0 fp (.node l2 x2 r2 c2) (some ⟨b, 0, none⟩) w := ⟨⟨_, ⟨b, av, pl, pr, fl, fr, rfl, rfl, hb, hav, hl, hr⟩, hnd1, hsub, ho⟩, hd⟩
    have hs := (St.nil w).track hb (by simp)
    repeat' (first|refine vs (k:=?_)|refine qRg ?_|fail)
    have ho2 : Only [] w _ := hs.onlyF [] (by simp [hb]) (by simp [D0])
    (with_reducible apply xs_call); exact rfl; exact rfl; exact isRed_ret l2 pl fl _ (hl.keep ho2 (Nodes.nil _) (by simp))
    rintro v w' ⟨rfl, ho⟩; replace hs := hs.call0 ho
    generalize hq : l2.red = q
    cases q
    · repeat' (first|refine vs (k:=?_)|refine ps (k:=?_)|refine Nx.h ?_|fail)
      exact cutN_normal () (by (repeat (first | exact agree_nil | (apply agree_cons; exact rfl)))) (hH.only (hs.onlyF [] (by simp [hb]) (by simp [D0])))
    · repeat' (first|refine vs (k:=?_)|fail)
      have ho2 : Only [] w _ := hs.onlyF [] (by simp [hb]) (by simp [D0])
      (with_reducible apply xs_call); exact rfl; exact rfl; exact isRed_ret r2 pr fr _ (hr.keep ho2 (Nodes.nil _) (by simp))
      rintro v w' ⟨rfl, ho⟩; replace hs := hs.call0 ho
      generalize hq2 : r2.red = q2
      repeat' (first|refine vs (k:=?_)|refine Nx.h ?_|fail)
      exact cutN_normal () (by (repeat (first | exact agree_nil | (apply agree_cons; exact rfl)))) (hH.only (hs.onlyF [] (by simp [hb]) (by simp [D0])))
  clear hH
  rintro _ env w hH
  refine xc_cutN (fun _ : Unit => [(0, .pointer (some ⟨tb, 0, none⟩)), (1, .pointer p2), (4, .pointer none)]) (fun _ w => Has w0 tb p0 n0 fp (RB.mend3 (.node l2 x2 r2 c2)) p2 w) ?_ ?_
  · generalize hq : (l2.red && r2.red) = q
    cases q
    · repeat' (first|refine Nx.h ?_|refine qCf ?_|fail)
      refine cutN_normal () (by (repeat (first | exact agree_nil | (apply agree_cons; exact rfl)))) ?_
      unfold RB.mend3
      rw [RB.left_node, RB.right_node, hq]
      exact hH
    · obtain ⟨⟨fp1, h1, h2, h3, h4⟩, h5⟩ := hH
      simp only [Bool.and_eq_true] at hq
      obtain ⟨ll, y, lr, rfl⟩ := RB.red_true hq.1
      obtain ⟨rl, z, rr, rfl⟩ := RB.red_true hq.2
      have hs := St.nil w
      repeat' (first|refine vs (k:=?_)|refine qRg ?_|refine qCt ?_|fail)
      (with_reducible apply xs_call); exact rfl; exact rfl; exact rbFlip_ret ll y lr true x2 rl z rr true c2 p2 fp1 _ h1 h2
      rintro v w' ⟨k1, k2⟩
      have hs := St.nil w'
      repeat' (first|refine Nx.h ?_|fail)
      refine cutN_normal () (by (repeat (first | exact agree_nil | (apply agree_cons; exact rfl)))) ⟨⟨fp1, k1, h2, h3, h4.step k2 h3⟩, head_keep h5 k2 h1.nodes⟩
  rintro _ env w hH
  have e3 : RB.mend3 (.node l2 x2 r2 c2) = RB.mend (.node l x r c) := by rw [← e2, ← e1]; rfl
  rw [e3] at hH
  have hs := St.nil w
  obtain ⟨⟨fp1, h1, h2, h3, h4⟩, h5⟩ := hH
  repeat' (first|refine vs (k:=?_)|refine qRg ?_|refine Nx.h ?_|fail)
  first | refine rt (hq := ?_) | refine rt' (hq := ?_)
  exact ⟨_, fp1, rfl, h1, h2, h3, h4.step (hs.only0 rfl) (by simp)⟩
end Go.Proofs.YtilajmcellffiaaGreatDoorX.IB

namespace Go.Proofs.YtilajmcellffiaaGreatDoorX.IB
open Go Go.RowKit
attribute [local irreducible] XS XC XA thenE blockE retE loopE loopS cutB cutN doneE SE
theorem Turned.up {w0 w2 w3 : World} {fp fp2 : List Nat} {t : RB IT} {v : Value} (k : Turned w2 fp2 t v w3) (ho : Only fp w0 w2) (hs : ∀ k ∈ fp2, k ∈ fp ∨ w0.heap.size ≤ k) : Turned w0 fp t v w3 := by
  obtain ⟨p', fp', rfl, k1, k2, k3, k4⟩ := k
  refine ⟨p', fp', rfl, k1, k2, fun i hi => ?_, ho.step k4 hs⟩
  have := ho.size
  rcases k3 i hi with h | h
  · exact hs i h
  · exact .inr (by omega)
theorem graftL {w w' w2 : World} {b : Nat} {y y2 : IT} {av av2 : It} {pl pr p' : Option Addr} {c c2 : Bool} {fl fr : List Nat} {r l' : RB IT} (hb : w.heap[b]? = some (nodeO y av pl pr c)) (hl : Nodes w fl) (hr : TreeAt w r pr fr) (hnd : (b :: (fl ++ fr)).Nodup)
    (k : Turned w fl l' (.pointer p') w') (ho : Only [b] w' w2) (hb2 : w2.heap[b]? = some (nodeO y2 av2 p' pr c2)) :
    ∃ fp2, StaleAt w2 l' y2 r c2 (some ⟨b, 0, none⟩) fp2 ∧ fp2.Nodup ∧ (∀ i ∈ fp2, i ∈ b :: (fl ++ fr) ∨ w.heap.size ≤ i) ∧ Only (b :: (fl ++ fr)) w w2 := by
  obtain ⟨p, fp', e, k1, k2, k3, k4⟩ := k
  obtain rfl : p' = p := by injection e
  have hbs := lt_of_block hb
  have hrs := hr.nodes.lt
  simp only [List.nodup_cons, List.nodup_append, List.mem_append] at hnd
  obtain ⟨d1, d2, d3, d4⟩ := hnd
  have e1 : b ∉ fp' := fun hm => by
    rcases k3 b hm with h | h
    · exact d1 (.inl h)
    · omega
  have e2 : ∀ i ∈ fr, i ∉ fl := fun i hi hm => d4 i hm i hi rfl
  have hb1 := k4.block hb (fun h => d1 (.inl h))
  have hN : Nodes w' [b] := Nodes.cons hb1 (Nodes.nil w')
  refine ⟨b :: (fp' ++ fr), ⟨b, av2, p', pr, fp', fr, rfl, rfl, hb2, k1.keep ho hN (fun i hi hm => ?_), (hr.keep k4 hl e2).keep ho hN (fun i hi hm => ?_)⟩, ?_, ?_, ?_⟩
  · obtain rfl := List.mem_singleton.1 hm; exact e1 hi
  · obtain rfl := List.mem_singleton.1 hm; exact d1 (.inr hi)
  · simp only [List.nodup_cons, List.nodup_append, List.mem_append]
    refine ⟨fun h => ?_, k2, d3, fun i hi j hj hij => ?_⟩
    · rcases h with h | h
      · exact e1 h
      · exact d1 (.inr h)
    · subst hij
      rcases k3 i hi with h | h
      · exact d4 i h i hj rfl
      · have := hrs i hj; omega
  · intro i hi
    rcases List.mem_cons.1 hi with rfl | hi
    · exact .inl List.mem_cons_self
    · rcases List.mem_append.1 hi with hi | hi
      · rcases k3 i hi with h | h
        · exact .inl (List.mem_cons_of_mem _ (List.mem_append_left _ h))
        · exact .inr h
      · exact .inl (List.mem_cons_of_mem _ (List.mem_append_right _ hi))
  · exact (k4.weaken (fun i hi => List.mem_cons_of_mem _ (List.mem_append_left _ hi))).step ho (fun i hi => .inl (by obtain rfl := List.mem_singleton.1 hi; exact List.mem_cons_self))
theorem graftR {w w' w2 : World} {b : Nat} {y y2 : IT} {av av2 : It} {pl pr p' : Option Addr} {c c2 : Bool} {fl fr : List Nat} {l r' : RB IT} (hb : w.heap[b]? = some (nodeO y av pl pr c)) (hl : TreeAt w l pl fl) (hr : Nodes w fr) (hnd : (b :: (fl ++ fr)).Nodup)
    (k : Turned w fr r' (.pointer p') w') (ho : Only [b] w' w2) (hb2 : w2.heap[b]? = some (nodeO y2 av2 pl p' c2)) :
    ∃ fp2, StaleAt w2 l y2 r' c2 (some ⟨b, 0, none⟩) fp2 ∧ fp2.Nodup ∧ (∀ i ∈ fp2, i ∈ b :: (fl ++ fr) ∨ w.heap.size ≤ i) ∧ Only (b :: (fl ++ fr)) w w2 := by
  obtain ⟨p, fp', e, k1, k2, k3, k4⟩ := k
  obtain rfl : p' = p := by injection e
  have hbs := lt_of_block hb
  have hls := hl.nodes.lt
  simp only [List.nodup_cons, List.nodup_append, List.mem_append] at hnd
  obtain ⟨d1, d2, d3, d4⟩ := hnd
  have e1 : b ∉ fp' := fun hm => by
    rcases k3 b hm with h | h
    · exact d1 (.inr h)
    · omega
  have e2 : ∀ i ∈ fl, i ∉ fr := fun i hi hm => d4 i hi i hm rfl
  have hb1 := k4.block hb (fun h => d1 (.inr h))
  have hN : Nodes w' [b] := Nodes.cons hb1 (Nodes.nil w')
  refine ⟨b :: (fl ++ fp'), ⟨b, av2, pl, p', fl, fp', rfl, rfl, hb2, (hl.keep k4 hr e2).keep ho hN (fun i hi hm => ?_), k1.keep ho hN (fun i hi hm => ?_)⟩, ?_, ?_, ?_⟩
  · obtain rfl := List.mem_singleton.1 hm; exact d1 (.inl hi)
  · obtain rfl := List.mem_singleton.1 hm; exact e1 hi
  · simp only [List.nodup_cons, List.nodup_append, List.mem_append]
    refine ⟨fun h => ?_, d2, k2, fun i hi j hj hij => ?_⟩
    · rcases h with h | h
      · exact d1 (.inl h)
      · exact e1 h
    · subst hij
      rcases k3 i hj with h | h
      · exact d4 i hi i h rfl
      · have := hls i hi; omega
  · intro i hi
    rcases List.mem_cons.1 hi with rfl | hi
    · exact .inl List.mem_cons_self
    · rcases List.mem_append.1 hi with hi | hi
      · exact .inl (List.mem_cons_of_mem _ (List.mem_append_left _ hi))
      · rcases k3 i hi with h | h
        · exact .inl (List.mem_cons_of_mem _ (List.mem_append_right _ h))
        · exact .inr h
  · exact (k4.weaken (fun i hi => List.mem_cons_of_mem _ (List.mem_append_right _ hi))).step ho (fun i hi => .inl (by obtain rfl := List.mem_singleton.1 hi; exact List.mem_cons_self))
theorem len_ins (x : IT) : ∀ t : RB IT, (RB.ins ltT t x).list.length = t.list.length + 1
  | .nil => rfl
  | .node l y r c => by
    simp only [RB.ins]
    cases ltT x y
    · rw [cond_false, RB.list_mend]; simp only [RB.list, List.length_append, List.length_cons, len_ins x r]; omega
    · rw [cond_true, RB.list_mend]; simp only [RB.list, List.length_append, List.length_cons, len_ins x l]; omega
set_option maxHeartbeats 2000000 in
theorem insert_ret (tb : Nat) (p0 : Option Addr) (n0 : Int) (x : IT) : ∀ (t : RB IT) (p : Option Addr) (fp : List Nat) (w0 : World) (hT : w0.heap[tb]? = some (treeO p0 n0)) (h : TreeAt w0 t p fp) (hnd : fp.Nodup) (hlen : t.list.length + 1 ≤ 1000000),
    Ret Tryz.prog 176 #[.pointer (some ⟨tb, 0, none⟩), .pointer p, iv x.1] w0 fun v w' => Turned w0 fp (RB.ins ltT t x) v w'
  | .nil, p, fp, w0, hT, ⟨hp, hf⟩, hnd, hlen => by
    subst hp hf
    have hs := (St.nil w0).track hT (by simp)
    refine ret_of_xc Tryz.func176 (by kernel_rfl) rfl Tryz.ntmps176 rfl rfl rfl ?_; refine xc_seq ?_; refine xc_region ?_ ?_; exact rfl; refine bx hs (k := ?_); intro bq wq hzq hs; repeat' (first|refine vs (k:=?_)|refine qRg ?_|refine Nx.h ?_|refine qCt ?_|fail)
    refine dr [] hs (k := ?_); intro hX w hs
    refine tk 0 hX (k := ?_)
    refine tk 1 hX (k := ?_)
    refine tk 2 hX (k := ?_)
    refine tk 3 hX (k := ?_)
    refine tk 4 hX (k := ?_)
    refine tk 5 hX (k := ?_)
    refine dt 6 hX (k := ?_)
    (with_reducible apply xs_call); exact rfl; exact rfl; exact itself_ret x.1 _
    rintro v w' ⟨rfl, ho⟩; replace hs := hs.call0 ho; repeat' (first|refine Nx.h ?_|fail)
    refine dn (k := ?_)
    refine tk 7 hX (k := ?_)
    refine dt 8 hX (k := ?_)
    refine bx hs (k := ?_); intro b w hz hs
    repeat' (first|refine Nx.h ?_|fail)
    refine dn (k := ?_)
    refine tk 9 hX (k := ?_)
    refine en (k := ?_)
    repeat' (first|refine Nx.h ?_|fail)
    first | refine rt (hq := ?_) | refine rt' (hq := ?_)
    have ho : Only [] w0 _ := hs.onlyF [] (by simp [hT]) (by simp [D0])
    have hnew := hs.new (b, true) (by simp) rfl
    exact ⟨_, [b], rfl, ⟨b, _, none, none, [], [], rfl, rfl, hs.get At.head, rfl, ⟨rfl, rfl⟩, ⟨rfl, rfl⟩⟩, by simp, fun k hk => .inr (by obtain rfl := List.mem_singleton.1 hk; exact hnew), ho⟩
  | .node l y r c, p, fp, w0, hT, ⟨b, av, pl, pr, fl, fr, hp, hf, hb, hav, hl, hr⟩, hnd, hlen => by
    subst hp hf
    have hbt := head_ne hT hb
    have hs := ((St.nil w0).track hT (by simp)).track hb (by simpa using hbt)
    have lt1 := lt_of_block hT
    have lt2 := lt_of_block hb
    have lt3 := hl.nodes.lt
    have lt4 := hr.nodes.lt
    simp only [RB.list, List.length_append, List.length_cons] at hlen
    refine ret_of_xc Tryz.func176 (by kernel_rfl) rfl Tryz.ntmps176 rfl rfl rfl ?_; refine xc_seq ?_; refine xc_region ?_ ?_; exact rfl; refine bx hs (k := ?_); intro bq wq hzq hs; repeat' (first|refine vs (k:=?_)|refine qRg ?_|refine Nx.h ?_|refine qCf ?_|fail)
    have hbq := hs.new (bq, true) (by simp) rfl
    simp only at hbq
    refine dr [] hs (k := ?_); intro hX w hs
    refine tk 0 hX (k := ?_)
    refine tk 1 hX (k := ?_)
    refine tk 2 hX (k := ?_)
    refine tk 3 hX (k := ?_)
    refine tk 4 hX (k := ?_)
    refine tk 5 hX (k := ?_)
    refine tk 6 hX (k := ?_)
    refine tk 7 hX (k := ?_)
    refine tk 8 hX (k := ?_)
    refine dt 9 hX (k := ?_)
    (with_reducible apply xs_call); exact rfl; exact rfl; exact ahd_ret x y _
    rintro v w' ⟨rfl, ho⟩; replace hs := hs.call0 ho
    repeat' (first|refine Nx.h ?_|fail)
    refine dn (k := ?_)
    refine tk 10 hX (k := ?_)
    refine en (k := ?_)
    generalize hq : ltT x y = q
    cases q
    · have e : RB.ins ltT (.node l y r c) x = RB.mend (.node l y (RB.ins ltT r x) c) := by simp [RB.ins, hq]
      rw [e]
      repeat' (first|refine Nx.h ?_|refine qCf ?_|fail)
      have ho1 : Only [] w0 _ := hs.onlyF [] (by simp [hT, hb]) (by simp [D0])
      have hTw := head_keep hT ho1 (Nodes.nil _)
      have hlw := hl.keep ho1 (Nodes.nil _) (by simp)
      have hrw := hr.keep ho1 (Nodes.nil _) (by simp)
      have hbw := hs.get (At.tail At.head)
      have hqw := hs.get At.head
      refine dr [10] hs (k := ?_); intro hX w hs
      refine tk 0 hX (k := ?_)
      refine tk 1 hX (k := ?_)
      refine tk 2 hX (k := ?_)
      refine tk 3 hX (k := ?_)
      refine tk 4 hX (k := ?_)
      refine tk 5 hX (k := ?_)
      refine tk 6 hX (k := ?_)
      refine dt 7 hX (k := ?_)
      have ho1 : Only [] w0 _ := hs.onlyF [] (by simp [hT, hb]) (by simp [D0])
      have hTw := head_keep hT ho1 (Nodes.nil _)
      have hlw := hl.keep ho1 (Nodes.nil _) (by simp)
      have hrw := hr.keep ho1 (Nodes.nil _) (by simp)
      have hbw := hs.get (At.tail At.head)
      have hqw := hs.get At.head
      (with_reducible apply xs_call); exact rfl; exact rfl; exact insert_ret tb p0 n0 x r pr fr _ hTw hrw (by simp only [List.nodup_cons, List.nodup_append] at hnd; exact hnd.2.2.1) (by omega)
      rintro v w' hk
      obtain ⟨p', hv⟩ : ∃ p', v = .pointer p' := by obtain ⟨p', _, hv, _⟩ := hk; exact ⟨p', hv⟩
      subst hv
      obtain ⟨_, _, _, _, _, _, k4⟩ := id hk
      have hT1 := head_keep hTw k4 hrw.nodes
      have hb1 := k4.block hbw (fun h => by simp [h] at hnd)
      have hq1 := k4.block hqw (fun h => by have := lt4 bq h; omega)
      clear hs
      have hs := (((St.nil w').track hT1 (by simp)).track hb1 (by simpa using hbt)).track hq1 (by simp; omega)
      repeat' (first|refine Nx.h ?_|fail)
      refine dn (k := ?_)
      refine tk 8 hX (k := ?_)
      refine tk 9 hX (k := ?_)
      refine dt 10 hX (k := ?_)
      repeat' (first|(refine st hs (k:=?_);intro w hs)|refine Nx.h ?_|fail)
      refine dn (k := ?_)
      refine en (k := ?_)
      repeat' (first|refine vs (k:=?_)|refine qRg ?_|refine Nx.h ?_|fail)
      have ho3 : Only [b] w' _ := hs.onlyF [b] (by simp [hT1, hq1]) (by simp [D0])
      obtain ⟨fp2, s1, s2, s3, s4⟩ := graftR hbw hlw hrw.nodes hnd hk ho3 (hs.get (At.tail At.head))
      (with_reducible apply xs_call); exact rfl; exact rfl; exact mend_ret tb p0 n0 _ y _ c _ _ _ (head_keep hT1 ho3 (Nodes.cons hb1 (Nodes.nil _))) s1 s2 (by simp only [List.length_append, List.length_cons, len_ins]; omega)
      rintro v w3 hm
      have hsz := ho1.size
      have hm2 := hm.up ((ho1.weaken (G := b :: (fl ++ fr)) (by simp)).step s4 (fun k hk => .inl hk)) (fun k hk => by rcases s3 k hk with h | h; exact .inl h; exact .inr (by omega))
      have hs := St.nil w3
      repeat' (first|refine vs (k:=?_)|refine Nx.h ?_|fail)
      first | refine rt (hq := ?_) | refine rt' (hq := ?_)
      exact hm2
    · have e : RB.ins ltT (.node l y r c) x = RB.mend (.node (RB.ins ltT l x) y r c) := by simp [RB.ins, hq]
      rw [e]
      repeat' (first|refine Nx.h ?_|refine qCt ?_|fail)
      have ho1 : Only [] w0 _ := hs.onlyF [] (by simp [hT, hb]) (by simp [D0])
      have hTw := head_keep hT ho1 (Nodes.nil _)
      have hlw := hl.keep ho1 (Nodes.nil _) (by simp)
      have hrw := hr.keep ho1 (Nodes.nil _) (by simp)
      have hbw := hs.get (At.tail At.head)
      have hqw := hs.get At.head
      refine dr [10] hs (k := ?_); intro hX w hs
      refine tk 0 hX (k := ?_)
      refine tk 1 hX (k := ?_)
      refine tk 2 hX (k := ?_)
      refine tk 3 hX (k := ?_)
      refine tk 4 hX (k := ?_)
      refine tk 5 hX (k := ?_)
      refine tk 6 hX (k := ?_)
      refine dt 7 hX (k := ?_)
      have ho1 : Only [] w0 _ := hs.onlyF [] (by simp [hT, hb]) (by simp [D0])
      have hTw := head_keep hT ho1 (Nodes.nil _)
      have hlw := hl.keep ho1 (Nodes.nil _) (by simp)
      have hrw := hr.keep ho1 (Nodes.nil _) (by simp)
      have hbw := hs.get (At.tail At.head)
      have hqw := hs.get At.head
      (with_reducible apply xs_call); exact rfl; exact rfl; exact insert_ret tb p0 n0 x l pl fl _ hTw hlw (by simp only [List.nodup_cons, List.nodup_append] at hnd; exact hnd.2.1) (by omega)
      rintro v w' hk
      obtain ⟨p', hv⟩ : ∃ p', v = .pointer p' := by obtain ⟨p', _, hv, _⟩ := hk; exact ⟨p', hv⟩
      subst hv
      obtain ⟨_, _, _, _, _, _, k4⟩ := id hk
      have hT1 := head_keep hTw k4 hlw.nodes
      have hb1 := k4.block hbw (fun h => by simp [h] at hnd)
      have hq1 := k4.block hqw (fun h => by have := lt3 bq h; omega)
      clear hs
      have hs := (((St.nil w').track hT1 (by simp)).track hb1 (by simpa using hbt)).track hq1 (by simp; omega)
      repeat' (first|refine Nx.h ?_|fail)
      refine dn (k := ?_)
      refine tk 8 hX (k := ?_)
      refine tk 9 hX (k := ?_)
      refine dt 10 hX (k := ?_)
      repeat' (first|(refine st hs (k:=?_);intro w hs)|refine Nx.h ?_|fail)
      refine dn (k := ?_)
      refine en (k := ?_)
      repeat' (first|refine vs (k:=?_)|refine qRg ?_|refine Nx.h ?_|fail)
      have ho3 : Only [b] w' _ := hs.onlyF [b] (by simp [hT1, hq1]) (by simp [D0])
      obtain ⟨fp2, s1, s2, s3, s4⟩ := graftL hbw hlw.nodes hrw hnd hk ho3 (hs.get (At.tail At.head))
      (with_reducible apply xs_call); exact rfl; exact rfl; exact mend_ret tb p0 n0 _ y _ c _ _ _ (head_keep hT1 ho3 (Nodes.cons hb1 (Nodes.nil _))) s1 s2 (by simp only [List.length_append, List.length_cons, len_ins]; omega)
      rintro v w3 hm
      have hsz := ho1.size
      have hm2 := hm.up ((ho1.weaken (G := b :: (fl ++ fr)) (by simp)).step s4 (fun k hk => .inl hk)) (fun k hk => by rcases s3 k hk with h | h; exact .inl h; exact .inr (by omega))
      have hs := St.nil w3
      repeat' (first|refine vs (k:=?_)|refine Nx.h ?_|fail)
      first | refine rt (hq := ?_) | refine rt' (hq := ?_)
      exact hm2
end Go.Proofs.YtilajmcellffiaaGreatDoorX.IB

namespace Go.Proofs.YtilajmcellffiaaGreatDoorX.IB
open Go Go.RowKit
attribute [local irreducible] XS XC XA thenE blockE retE loopE loopS cutB cutN doneE SE
set_option maxHeartbeats 1000000 in
theorem has_ret (tb : Nat) (p : Option Addr) (n : Int) (t : RB IT) (fp : List Nat) (x : IT) (w0 : World) (hT : w0.heap[tb]? = some (treeO p n)) (h : TreeAt w0 t p fp) :
    Ret Tryz.prog 175 #[.pointer (some ⟨tb, 0, none⟩), iv x.1] w0 fun v w' => v = .bool (RB.has ltT x t) ∧ Only [] w0 w' := by
  have hs := (St.nil w0).track hT (by simp)
  have lt1 := lt_of_block hT
  refine ret_of_xc Tryz.func175 (by kernel_rfl) rfl Tryz.ntmps175 rfl rfl rfl ?_; refine xc_seq ?_; refine xc_region ?_ ?_; exact rfl; refine bx hs (k := ?_); intro bq wq hzq hs; repeat' (first|refine vs (k:=?_)|refine qRg ?_|refine Nx.h ?_|refine qCf ?_|fail)
  have hbq := hs.new (bq, true) (by simp) rfl
  simp only at hbq
  have ho1 : Only [] w0 _ := hs.onlyF [] (by simp [hT]) (by simp [D0])
  have hqw := hs.get At.head
  refine xc_cutB (fun _ : Unit => []) (fun _ w => RB.has ltT x t = false ∧ Only [] w0 w) ?_ ?_
  · refine xc_loopS (fun (s : RB IT × Option Addr) => [(0, .pointer (some ⟨tb, 0, none⟩)), (3, .pointer (some ⟨bq, 0, none⟩)), (5, .pointer s.2)])
      (fun s w => RB.has ltT x s.1 = RB.has ltT x t ∧ Only [] w0 w ∧ w.heap[bq]? = some (.cells x.1.cells.toArray 29 (0, 0)) ∧ ∃ fp, TreeAt w0 s.1 s.2 fp)
      (fun s => s.1.list.length) (t, p) (by (repeat (first | exact agree_nil | (apply agree_cons; exact rfl)))) ⟨rfl, ho1, hqw, fp, h⟩ fun s env w ⟨h1, h2, hqw, fp2, h3⟩ => ?_
    clear hs
    obtain ⟨s, ps⟩ := s
    dsimp only at h1 h3 ⊢
    have hTw := h2.block hT (by simp)
    cases s with
    | nil =>
      obtain ⟨rfl, rfl⟩ := h3
      have hs := St.nil w
      repeat' (first|refine vs (k:=?_)|refine qRg ?_|refine Nx.h ?_|refine qCf ?_|fail)
      exact cutB_exit () (by (repeat (first | exact agree_nil | (apply agree_cons; exact rfl)))) ⟨h1.symm, h2.step (hs.only0 rfl) (by simp)⟩
    | node l y r c =>
      obtain ⟨b, av, pl, pr, fl, fr, rfl, rfl, hb, hav, hl, hr⟩ := h3
      have hbw := h2.block hb (by simp)
      have hbt := head_ne hT hb
      have lt2 := lt_of_block hb
      have hs := (((St.nil w).track hTw (by simp)).track hbw (by simpa using hbt)).track hqw (by simp; omega)
      repeat' (first|refine vs (k:=?_)|refine qRg ?_|refine Nx.h ?_|refine qCt ?_|fail)
      refine dr [] hs (k := ?_); intro hX w hs
      refine tk 0 hX (k := ?_)
      refine tk 1 hX (k := ?_)
      refine tk 2 hX (k := ?_)
      refine tk 3 hX (k := ?_)
      refine tk 4 hX (k := ?_)
      refine tk 5 hX (k := ?_)
      refine tk 6 hX (k := ?_)
      refine tk 7 hX (k := ?_)
      refine tk 8 hX (k := ?_)
      refine dt 9 hX (k := ?_)
      (with_reducible apply xs_call); exact rfl; exact rfl; exact ahd_ret x y _
      rintro v w' ⟨rfl, ho⟩; replace hs := hs.call0 ho
      repeat' (first|refine Nx.h ?_|fail)
      refine dn (k := ?_)
      refine tk 10 hX (k := ?_)
      refine en (k := ?_)
      generalize hq : ltT x y = q
      simp only [RB.has, hq] at h1
      cases q
      · repeat' (first|refine Nx.h ?_|refine qCf ?_|fail)
        refine dr [] hs (k := ?_); intro hX w hs
        refine tk 0 hX (k := ?_)
        refine tk 1 hX (k := ?_)
        refine tk 2 hX (k := ?_)
        refine tk 3 hX (k := ?_)
        refine tk 4 hX (k := ?_)
        refine tk 5 hX (k := ?_)
        refine tk 6 hX (k := ?_)
        refine tk 7 hX (k := ?_)
        refine tk 8 hX (k := ?_)
        refine dt 9 hX (k := ?_)
        (with_reducible apply xs_call); exact rfl; exact rfl; exact ahd_ret y x _
        rintro v w' ⟨rfl, ho⟩; replace hs := hs.call0 ho
        repeat' (first|refine Nx.h ?_|fail)
        refine dn (k := ?_)
        refine tk 10 hX (k := ?_)
        refine en (k := ?_)
        generalize hq2 : ltT y x = q2
        simp only [hq2, cond_false] at h1
        cases q2
        · repeat' (first|refine vs (k:=?_)|refine qRg ?_|refine Nx.h ?_|refine qCf ?_|fail)
          first | refine rt (hq := ?_) | refine rt' (hq := ?_)
          exact ⟨by rw [← h1]; rfl, h2.step (hs.onlyF [] (by simp [hTw, hbw, hqw]) (by simp [D0])) (by simp)⟩
        · repeat' (first|refine vs (k:=?_)|refine qRg ?_|refine Nx.h ?_|refine qCt ?_|fail)
          exact loopS_next (r, pr) (by simp only [RB.list, List.length_append, List.length_cons]; omega) (by (repeat (first | exact agree_nil | (apply agree_cons; exact rfl)))) ⟨h1, h2.step (hs.onlyF [] (by simp [hTw, hbw, hqw]) (by simp [D0])) (by simp), hs.get At.head, _, hr⟩
      · repeat' (first|refine vs (k:=?_)|refine qRg ?_|refine Nx.h ?_|refine qCt ?_|fail)
        exact loopS_next (l, pl) (by simp only [RB.list, List.length_append, List.length_cons]; omega) (by (repeat (first | exact agree_nil | (apply agree_cons; exact rfl)))) ⟨h1, h2.step (hs.onlyF [] (by simp [hTw, hbw, hqw]) (by simp [D0])) (by simp), hs.get At.head, _, hl⟩
  · rintro _ env w ⟨h1, h2⟩
    clear hs
    have hs := St.nil w
    repeat' (first|refine vs (k:=?_)|refine qRg ?_|refine Nx.h ?_|fail)
    first | refine rt (hq := ?_) | refine rt' (hq := ?_)
    exact ⟨by rw [h1]; rfl, h2.step (hs.only0 rfl) (by simp)⟩
theorem mend3_node (l : RB IT) (x : IT) (r : RB IT) (c : Bool) : ∃ l' x' r' c', RB.mend3 (.node l x r c) = .node l' x' r' c' := by
  unfold RB.mend3
  cases l with
  | nil => exact ⟨_, _, _, _, rfl⟩
  | node a y b d =>
    cases r with
    | nil => cases d <;> exact ⟨_, _, _, _, rfl⟩
    | node u z v e => cases d <;> cases e <;> exact ⟨_, _, _, _, rfl⟩
theorem mend_node (l : RB IT) (x : IT) (r : RB IT) (c : Bool) : ∃ l' x' r' c', RB.mend (.node l x r c) = .node l' x' r' c' := by
  unfold RB.mend
  obtain ⟨l1, x1, r1, c1, e1⟩ := mend1_node l x r c
  obtain ⟨l2, x2, r2, c2, e2⟩ := mend2_node l1 x1 r1 c1
  rw [e1, e2]
  exact mend3_node l2 x2 r2 c2
theorem ins_node (x : IT) (t : RB IT) : ∃ l' x' r' c', RB.ins ltT t x = .node l' x' r' c' := by
  cases t with
  | nil => exact ⟨_, _, _, _, rfl⟩
  | node l y r c =>
    simp only [RB.ins]
    cases ltT x y
    · exact mend_node _ _ _ _
    · exact mend_node _ _ _ _
theorem TreeAt.keepD {w w' : World} {F : List Nat} (ho : Only F w w') : ∀ {t : RB IT} {p : Option Addr} {fp : List Nat}, TreeAt w t p fp → (∀ b ∈ fp, b ∉ F) → TreeAt w' t p fp
  | .nil, p, fp, h, _ => h
  | .node l x r c, p, fp, ⟨b, av, pl, pr, fl, fr, h1, h2, h3, h4, h5, h6⟩, hd => by
    subst h2
    exact ⟨b, av, pl, pr, fl, fr, h1, rfl, ho.block h3 (hd b List.mem_cons_self), h4, TreeAt.keepD ho h5 fun k hk => hd k (List.mem_cons_of_mem _ (List.mem_append_left _ hk)),
      TreeAt.keepD ho h6 fun k hk => hd k (List.mem_cons_of_mem _ (List.mem_append_right _ hk))⟩
theorem tree_keep2 {w w' : World} {b tb : Nat} {t : RB IT} {p p0 : Option Addr} {n0 : Int} {fp : List Nat} {cs : Array Value} {fz : Nat × Nat} (h : TreeAt w t p fp) (ho : Only [b, tb] w w') (hb : w.heap[b]? = some (.cells cs 221 fz)) (hT : w.heap[tb]? = some (treeO p0 n0)) (h1 : b ∉ fp) (h2 : tb ∉ fp) : TreeAt w' t p fp :=
  h.keepD ho fun k hk hm => by
    simp only [List.mem_cons, List.not_mem_nil, or_false] at hm
    rcases hm with rfl | rfl
    · exact h1 hk
    · exact h2 hk
def Obj6 (w : World) (tb : Nat) (t : RB IT) (F : List Nat) : Prop := ∃ p fp, F = tb :: fp ∧ w.heap[tb]? = some (treeO p t.list.length) ∧ TreeAt w t p fp ∧ fp.Nodup
def RB.insert (t : RB IT) (x : IT) : RB IT := bif RB.has ltT x t then t else RB.blacken (RB.ins ltT t x)
set_option maxHeartbeats 1000000 in
theorem rbInsert_ret (tb : Nat) (t : RB IT) (F : List Nat) (x : IT) (w0 : World) (h : Obj6 w0 tb t F) (hlen : t.list.length + 1 ≤ 1000000) :
    Ret Tryz.prog 136 #[.pointer (some ⟨tb, 0, none⟩), iv x.1] w0 fun v w' => v = .bool (!RB.has ltT x t) ∧ ∃ F', Obj6 w' tb (RB.insert t x) F' ∧ (∀ k ∈ F', k ∈ F ∨ w0.heap.size ≤ k) ∧ Only F w0 w' := by
  obtain ⟨p, fp, rfl, hT, ht, hnd⟩ := h
  have hs := (St.nil w0).track hT (by simp)
  have lt1 := lt_of_block hT
  have lt3 := ht.nodes.lt
  refine ret_of_xc Tryz.func136 (by kernel_rfl) rfl Tryz.ntmps136 rfl rfl rfl ?_; refine xc_seq ?_; refine xc_region ?_ ?_; exact rfl; refine bx hs (k := ?_); intro bq wq hzq hs; repeat' (first|refine vs (k:=?_)|refine qRg ?_|refine Nx.h ?_|fail)
  have hbq := hs.new (bq, true) (by simp) rfl
  simp only at hbq
  have ho1 : Only [] w0 _ := hs.onlyF [] (by simp [hT]) (by simp [D0])
  (with_reducible apply xs_call); exact rfl; exact rfl; exact has_ret tb p _ t fp x _ (hs.get (At.tail At.head)) (ht.keep ho1 (Nodes.nil _) (by simp))
  rintro v w' ⟨rfl, ho⟩; replace hs := hs.call0 ho
  unfold RB.insert
  generalize hq : RB.has ltT x t = q
  cases q
  · obtain ⟨l', y, r', c, e⟩ := ins_node x t
    have hl' := len_ins x t
    rw [e] at hl' ⊢
    repeat' (first|refine vs (k:=?_)|refine Nx.h ?_|refine qCf ?_|fail)
    refine dr [10] hs (k := ?_); intro hX w hs
    refine tk 0 hX (k := ?_)
    refine tk 1 hX (k := ?_)
    refine tk 2 hX (k := ?_)
    refine tk 3 hX (k := ?_)
    refine tk 4 hX (k := ?_)
    refine tk 5 hX (k := ?_)
    refine tk 6 hX (k := ?_)
    refine dt 7 hX (k := ?_)
    have ho1 : Only [] w0 _ := hs.onlyF [] (by simp [hT]) (by simp [D0])
    have hTw := hs.get (At.tail At.head)
    have hqw := hs.get At.head
    have htw := ht.keep ho1 (Nodes.nil _) (by simp)
    (with_reducible apply xs_call); exact rfl; exact rfl; exact insert_ret tb p _ x t p fp _ hTw htw hnd hlen
    rintro v w1 ⟨p', fp', rfl, k1, k2, k3, k4⟩
    have hT1 := head_keep hTw k4 htw.nodes
    have hq1 := k4.block hqw (fun h => by have := lt3 bq h; omega)
    rw [e] at k1
    obtain ⟨b, av, pl, pr, fl, fr, rfl, rfl, hb, hav, hl, hr⟩ := k1
    have hbt := head_ne hT1 hb
    have hbq2 : b ≠ bq := blocks_ne hb hq1 (by decide)
    clear hs
    have hs := ((St.nil w1).track hT1 (by simp)).track hq1 (by simp; omega)
    repeat' (first|refine Nx.h ?_|fail)
    refine dn (k := ?_)
    replace hs := hs.track (b := b) hb (by simp [hbt, hbq2])
    refine tk 8 hX (k := ?_)
    refine tk 9 hX (k := ?_)
    refine dt 10 hX (k := ?_)
    repeat' (first|(refine st hs (k:=?_);intro w hs)|refine Nx.h ?_|fail)
    refine dn (k := ?_)
    refine en (k := ?_)
    repeat' (first|refine vs (k:=?_)|(refine st hs (k:=?_);intro w hs)|refine qRg ?_|refine Nx.h ?_|fail)
    have en : IntKind.i64.wrap ((t.list.length : Nat) + 1) = ((l'.list ++ y :: r'.list).length : Nat) := by
      have h1 : (l'.list ++ y :: r'.list).length = t.list.length + 1 := hl'
      rw [h1]
      exact i64_small (by omega) (by omega)
    rw [en] at hs
    first | refine rt (hq := ?_) | refine rt' (hq := ?_)
    have ho3 : Only [b, tb] w1 _ := hs.onlyF [b, tb] (by simp [hq1]) (by simp [D0])
    have hsz := ho1.size
    have hbn : b ∉ fl ∧ b ∉ fr := by
      simp only [List.nodup_cons, List.mem_append, not_or] at k2
      exact k2.1
    have htn : tb ∉ fl ∧ tb ∉ fr := ⟨(fun h => by obtain ⟨_, _, h⟩ := hl.nodes tb h; rw [hT1] at h; cases h), (fun h => by obtain ⟨_, _, h⟩ := hr.nodes tb h; rw [hT1] at h; cases h)⟩
    have h2 := hs.get At.head
    have h3 := hs.get (At.tail (At.tail At.head))
    have o1 : Only (tb :: fp) w0 w1 := (ho1.weaken (by simp)).step k4 (fun k hk => .inl (List.mem_cons_of_mem _ hk))
    refine ⟨rfl, tb :: (b :: (fl ++ fr)), ⟨_, _, rfl, h3, ⟨b, av, pl, pr, fl, fr, rfl, rfl, h2, hav, ?_, ?_⟩, k2⟩, ?_, ?_⟩
    · exact tree_keep2 hl ho3 hb hT1 hbn.1 htn.1
    · exact tree_keep2 hr ho3 hb hT1 hbn.2 htn.2
    · intro k hk
      rcases List.mem_cons.1 hk with rfl | hk
      · exact .inl List.mem_cons_self
      · rcases k3 k hk with h | h
        · exact .inl (List.mem_cons_of_mem _ h)
        · exact .inr (by omega)
    · refine o1.step ho3 (fun k hk => ?_)
      simp only [List.mem_cons, List.not_mem_nil, or_false] at hk
      rcases hk with rfl | rfl
      · rcases k3 k List.mem_cons_self with h | h
        · exact .inl (List.mem_cons_of_mem _ h)
        · exact .inr (by omega)
      · exact .inl List.mem_cons_self
  · repeat' (first|refine vs (k:=?_)|refine qRg ?_|refine Nx.h ?_|refine qCt ?_|fail)
    first | refine rt (hq := ?_) | refine rt' (hq := ?_)
    have ho1 : Only [] w0 _ := hs.onlyF [] (by simp [hT]) (by simp [D0])
    exact ⟨rfl, _, ⟨p, fp, rfl, hs.get (At.tail At.head), ht.keep ho1 (Nodes.nil _) (by simp), hnd⟩, fun k hk => .inl hk, ho1.weaken (by simp)⟩
end Go.Proofs.YtilajmcellffiaaGreatDoorX.IB

namespace Go.Proofs.YtilajmcellffiaaGreatDoorX.IB
open Go Go.RowKit
attribute [local irreducible] XS XC XA thenE blockE retE loopE loopS cutB cutN doneE SE
def flatT (l : List IT) : List Value := (l.map fun a => a.1.cells).flatten
theorem flatT_app (a b : List IT) : flatT (a ++ b) = flatT a ++ flatT b := by simp [flatT]
theorem slv_not {w : World} {e k n : Nat} {v : Value} {xs : List Value} {G : List Nat} (h : SlV w e k v n xs G) {t : Nat} (hne : t ≠ e) {cs : Array Value} {fz : Nat × Nat} {b : Nat} (hb : w.heap[b]? = some (.cells cs t fz)) : b ∉ G := fun hm => by
  rcases h with ⟨_, _, _, rfl⟩ | ⟨g, cap, cur, _, rfl, _, _, _, _, hg⟩
  · cases hm
  · obtain rfl := List.mem_singleton.1 hm
    exact blocks_ne hb hg hne rfl
theorem Nodes.not {w : World} {F : List Nat} (hF : Nodes w F) {e k n : Nat} {v : Value} {xs : List Value} {G : List Nat} (h : SlV w e k v n xs G) (hne : 221 ≠ e) : ∀ b ∈ F, b ∉ G := fun b hb => by
  obtain ⟨cs, fz, h1⟩ := hF b hb
  exact slv_not h hne h1
set_option maxHeartbeats 2000000 in
theorem walk_ret : ∀ (t : RB IT) (p : Option Addr) (fp : List Nat) (v0 : Value) (xs : List IT) (G : List Nat) (w0 : World) (h : TreeAt w0 t p fp) (hO : SlV w0 29 7 v0 xs.length (flatT xs) G) (hlen : xs.length + t.list.length ≤ 1000000),
    Ret Tryz.prog 182 #[.pointer p, v0] w0 fun v w' => (∃ G', SlV w' 29 7 v (xs ++ t.list).length (flatT (xs ++ t.list)) G' ∧ (∀ k ∈ G', k ∈ G ∨ w0.heap.size ≤ k)) ∧ Only G w0 w'
  | .nil, p, fp, v0, xs, G, w0, h, hO, hlen => by
    obtain ⟨rfl, rfl⟩ := h
    have hs := St.nil w0
    refine ret_of_xc Tryz.func182 (by kernel_rfl) rfl Tryz.ntmps182 rfl rfl rfl ?_
    repeat' (first|refine vs (k:=?_)|refine qRg ?_|refine Nx.h ?_|refine qCt ?_|fail)
    first | refine rt (hq := ?_) | refine rt' (hq := ?_)
    have ho := hs.only0 rfl
    rw [show xs ++ RB.nil.list = xs from List.append_nil xs]
    exact ⟨⟨G, hO.keep ho (by simp), fun k hk => .inl hk⟩, ho.weaken (by simp)⟩
  | .node l x r c, p, fp, v0, xs, G, w0, ⟨b, av, pl, pr, fl, fr, hp', hf', hb, hav, hl, hr⟩, hO, hlen => by
    subst hp' hf'
    simp only [RB.list, List.length_append, List.length_cons] at hlen
    have hs := (St.nil w0).track hb (by simp)
    have hGl := hO.lt
    have hbG := slv_not hO (by decide) hb
    have hnl := hl.nodes.not hO (by decide)
    have hnr := hr.nodes.not hO (by decide)
    have ltr := hr.nodes.lt
    have ltb := lt_of_block hb
    refine ret_of_xc Tryz.func182 (by kernel_rfl) rfl Tryz.ntmps182 rfl rfl rfl ?_
    repeat' (first|refine vs (k:=?_)|refine qRg ?_|refine Nx.h ?_|refine qCf ?_|fail)
    refine dr [] hs (k := ?_); intro hX w hs
    refine tk 0 hX (k := ?_)
    refine tk 1 hX (k := ?_)
    refine tk 2 hX (k := ?_)
    refine tk 3 hX (k := ?_)
    refine tk 4 hX (k := ?_)
    refine tk 5 hX (k := ?_)
    refine tk 6 hX (k := ?_)
    refine tk 7 hX (k := ?_)
    refine tk 8 hX (k := ?_)
    refine tk 10 hX (k := ?_)
    refine tk 11 hX (k := ?_)
    refine tk 12 hX (k := ?_)
    refine tk 13 hX (k := ?_)
    refine pd0S 14 22 x.1.cells hs (k := ?_); intro f X w hp; have hs := hp.st
    apply xa_pend 9 14 (f := f) (X := X) hX hp; exact rfl; exact rfl; (first | (apply makes_alloc tabOk; exact rfl) | (apply makes_slice tabOk; exact rfl; exact rfl; exact rfl; exact rfl; exact rfl; (intro X; ((repeat (first | exact Bld.nil | (apply Bld.one; exact rfl; (conv => lhs; whnf); exact rfl; (repeat (first | exact PutL.nil | apply PutL.skip | apply PutL.cons))) | (apply Bld.agg; exact rfl; exact rfl; exact rfl; (repeat (first | exact PutL.nil | apply PutL.skip | apply PutL.cons))))))))); kernel_rfl; kernel_rfl; kernel_rfl; kernel_rfl; (intro X Y; (repeat (first | exact pgg_base | refine pgg_step ?_ (by exact rfl)))); (intro w' hs; ((first | exact se_hold hs.hold | exact se_hold (hold_sim hs.hold rfl) | exact se_hold (hold_sim hs.hold.tail rfl) | exact se_hold (hR hs rfl) | exact se_hold hs.hold.tail | exact se_hold hs.hold.tail.tail | exact se_hold hs.hold.tail.tail.tail | exact se_done rfl))); intro f X w hp; have hs := hp.st
    have ho1 : Only [] w0 _ := hs.onlyF [] (by simp [hb]) (by simp [D0])
    (with_reducible apply xs_call); exact rfl; exact rfl; exact walk_ret l pl fl v0 xs G _ (hl.keep ho1 (Nodes.nil _) (by simp)) (hO.keep ho1 (by simp)) (by omega)
    rintro v1 w1 ⟨⟨G1, hO1, hG1⟩, ho2⟩
    have hz1 := ho1.size
    have hp : Pend w0 ⟨G ++ [], []⟩ _ _ _ (fun w => SlV w 29 7 v1 (xs ++ l.list).length (flatT (xs ++ l.list)) G1) _ _ _ := ⟨hp.core.call ho2 hGl (fun k hk hm => by obtain rfl := List.mem_singleton.1 hm; exact hbG hk) (by simp [D0]), hO1, fun _ _ ho h => h.keep ho (by simp)⟩
    replace hs := hp.st
    have hG1' : ∀ k ∈ G1, k ∈ G ∨ w0.heap.size ≤ k := fun k hk => by rcases hG1 k hk with h | h; exact .inl h; exact .inr (by omega)
    clear hG1 ho1 ho2
    repeat' (first|refine Nx.h ?_|fail)
    refine dn (k := ?_)
    apply xa_pendE 14 (f := f) (X := X) hX hp; exact rfl; (first | (apply makes_alloc tabOk; exact rfl) | (apply makes_slice tabOk; exact rfl; exact rfl; exact rfl; exact rfl; exact rfl; (intro X; ((repeat (first | exact Bld.nil | (apply Bld.one; exact rfl; (conv => lhs; whnf); exact rfl; (repeat (first | exact PutL.nil | apply PutL.skip | apply PutL.cons))) | (apply Bld.agg; exact rfl; exact rfl; exact rfl; (repeat (first | exact PutL.nil | apply PutL.skip | apply PutL.cons))))))))); kernel_rfl; kernel_rfl; (intro X Y; (repeat (first | exact pgg_base | refine pgg_step ?_ (by exact rfl)))); (intro w' hs; ((first | exact se_hold hs.hold | exact se_hold (hold_sim hs.hold rfl) | exact se_hold (hold_sim hs.hold.tail rfl) | exact se_hold (hR hs rfl) | exact se_hold hs.hold.tail | exact se_hold hs.hold.tail.tail | exact se_hold hs.hold.tail.tail.tail | exact se_done rfl))); intro b w hI hs
    refine dt 15 hX (k := ?_)
    have hb14 := hs.get At.head
    replace hs := hs.forgetNew
    have hbw := hs.get At.head
    refine xs_appendW tabOk rfl rfl rfl rfl rfl rfl rfl (by decide) (lit_cells (news := x.1.cells) hb14) (by simp [Value.oneCell']) hI (by simp only [List.length_append]; omega) (by simp only [List.length_append]; omega) ?_
    intro v2 w3 ⟨G2, hO2, hG2⟩ ho3
    have hz2 := hs.size
    have hbG1 := slv_not hI (by decide) hbw
    replace hs := hs.call ho3 (fun k hk hm => by obtain rfl := List.mem_singleton.1 hm; exact hbG1 hk) (by simp)
    have hO2' : SlV w3 29 7 v2 (xs ++ l.list ++ [x]).length (flatT (xs ++ l.list ++ [x])) G2 := by
      rw [flatT_app (xs ++ l.list) [x], List.length_append (bs := [x])]
      exact hO2
    have hG2' : ∀ k ∈ G2, k ∈ G ∨ w0.heap.size ≤ k := fun k hk => by
      rcases hG2 k hk with h | h
      · exact hG1' k h
      · exact .inr (by omega)
    have hoo : Only (G1 ++ (G ++ [])) w0 w3 := hs.onlyF _ (by simp [hb]) (by simp)
    have hr3 := hr.keepD hoo (fun k hk hm => by
      simp only [List.append_nil, List.mem_append] at hm
      rcases hm with hm | hm
      · rcases hG1' k hm with h | h
        · exact hnr k hk h
        · have := ltr k hk; omega
      · exact hnr k hk hm)
    repeat' (first|refine Nx.h ?_|fail)
    refine dn (k := ?_)
    refine dt 16 hX (k := ?_)
    (with_reducible apply xs_call); exact rfl; exact rfl; exact walk_ret r pr fr v2 (xs ++ l.list ++ [x]) G2 _ hr3 hO2' (by simp only [List.length_append, List.length_cons, List.length_nil]; omega)
    rintro v3 w4 ⟨⟨G3, hO3, hG3⟩, ho4⟩
    have hz3 := hs.size
    have hbw3 := hs.get At.head
    have hbG2 := slv_not hO2' (by decide) hbw3
    replace hs := hs.call ho4 (fun k hk hm => by obtain rfl := List.mem_singleton.1 hm; exact hbG2 hk) (by simp)
    repeat' (first|refine Nx.h ?_|fail)
    refine dn (k := ?_)
    refine tk 17 hX (k := ?_)
    refine en (k := ?_)
    repeat' (first|refine Nx.h ?_|fail)
    first | refine rt (hq := ?_) | refine rt' (hq := ?_)
    rw [show xs ++ l.list ++ [x] ++ r.list = xs ++ (RB.node l x r c).list by simp [RB.list]] at hO3
    have hoo2 : Only (G2 ++ (G1 ++ (G ++ []))) w0 w4 := hs.onlyF _ (by simp [hb]) (by simp)
    refine ⟨⟨G3, hO3, fun k hk => ?_⟩, ?_⟩
    · rcases hG3 k hk with h | h
      · exact hG2' k h
      · exact .inr (by omega)
    · refine hoo2.mono fun k hk hm => ?_
      simp only [List.append_nil, List.mem_append] at hm
      rcases hm with hm | hm | hm
      · rcases hG2' k hm with h | h
        · exact h
        · omega
      · rcases hG1' k hm with h | h
        · exact h
        · omega
      · exact hm
def ITsAt (w : World) (v : Value) (l : List IT) : Prop := ItsAt w v (l.map (·.1))
theorem its_of {w : World} {v : Value} {l : List IT} {G : List Nat} (h : SlV w 29 7 v l.length (flatT l) G) : ITsAt w v l := by
  unfold ITsAt ItsAt
  refine h.ls ?_ (by simp) ?_
  · simp [flatT, Function.comp_def]
  · intro x hx
    obtain ⟨a, _, rfl⟩ := List.mem_map.1 hx
    rfl
theorem rbAll_ret (tb : Nat) (t : RB IT) (F : List Nat) (w0 : World) (h : Obj6 w0 tb t F) (hlen : t.list.length ≤ 1000000) :
    Ret Tryz.prog 143 #[.pointer (some ⟨tb, 0, none⟩)] w0 fun v w' => (∃ G, SlV w' 29 7 v t.list.length (flatT t.list) G ∧ ∀ k ∈ G, w0.heap.size ≤ k) ∧ Only [] w0 w' := by
  obtain ⟨p, fp, rfl, hT, ht, hnd⟩ := h
  have hs := (St.nil w0).track hT (by simp)
  refine ret_of_xc Tryz.func143 (by kernel_rfl) rfl Tryz.ntmps143 rfl rfl rfl ?_
  repeat' (first|refine vs (k:=?_)|refine qRg ?_|refine Nx.h ?_|refine qCf ?_|fail)
  have ho1 : Only [] w0 _ := hs.onlyF [] (by simp [hT]) (by simp [D0])
  (with_reducible apply xs_call); exact rfl; exact rfl; exact walk_ret t p fp _ [] [] _ (ht.keep ho1 (Nodes.nil _) (by simp)) (.inl ⟨rfl, rfl, rfl, rfl⟩) (by simpa using hlen)
  rintro v w' ⟨⟨G, hO, hG⟩, ho⟩
  replace hs := hs.call0 ho
  rw [List.nil_append] at hO
  have hz := ho1.size
  repeat' (first|refine vs (k:=?_)|refine Nx.h ?_|fail)
  first | refine rt (hq := ?_) | refine rt' (hq := ?_)
  exact ⟨⟨G, hO, fun k hk => by rcases hG k hk with h | h; cases h; omega⟩, hs.onlyF [] (by simp [hT]) (by simp [D0])⟩
theorem rbLen_ret (tb : Nat) (t : RB IT) (F : List Nat) (w0 : World) (h : Obj6 w0 tb t F) :
    Ret Tryz.prog 70 #[.pointer (some ⟨tb, 0, none⟩)] w0 fun v w' => v = .int .i64 (t.list.length : Nat) ∧ Only [] w0 w' := by
  obtain ⟨p, fp, rfl, hT, ht, hnd⟩ := h
  have hs := (St.nil w0).track hT (by simp)
  refine ret_of_xc Tryz.func70 (by kernel_rfl) rfl Tryz.ntmps70 rfl rfl rfl ?_
  repeat' (first|refine vs (k:=?_)|refine qRg ?_|refine Nx.h ?_|refine qCf ?_|fail)
  first | refine rt (hq := ?_) | refine rt' (hq := ?_)
  exact ⟨rfl, hs.onlyF [] (by simp [hT]) (by simp [D0])⟩
theorem rbNewOf_ret (w0 : World) : Ret Tryz.prog 132 #[.func (.func 133) #[] #[], .func (.func 134) #[] #[], .func (.func 135) #[] #[]] w0 fun v w' => (∃ tb F, v = .pointer (some ⟨tb, 0, none⟩) ∧ Obj6 w' tb .nil F ∧ (∀ k ∈ F, w0.heap.size ≤ k)) ∧ Only [] w0 w' := by
  have hs := St.nil w0
  refine ret_of_xc Tryz.func132 (by kernel_rfl) rfl Tryz.ntmps132 rfl rfl rfl ?_
  refine xc_seq ?_
  refine xc_region ?_ ?_; exact rfl
  refine vs (k := ?_)
  refine XS.nil ?_
  refine then_of ?_
  refine xc_seq ?_
  refine xc_region ?_ ?_; exact rfl
  refine vs (k := ?_)
  refine vs (k := ?_)
  refine vs (k := ?_)
  refine vs (k := ?_)
  refine bx hs (k := ?_); intro b w hz hs
  repeat' (first|refine vs (k:=?_)|refine Nx.h ?_|fail)
  first | refine rt (hq := ?_) | refine rt' (hq := ?_)
  have hnew := hs.new (b, true) (by simp) rfl
  exact ⟨⟨b, [b], rfl, ⟨none, [], rfl, hs.get At.head, ⟨rfl, rfl⟩, List.nodup_nil⟩, fun k hk => by obtain rfl := List.mem_singleton.1 hk; exact hnew⟩, hs.only0 rfl⟩
end Go.Proofs.YtilajmcellffiaaGreatDoorX.IB

namespace Go.Proofs.YtilajmcellffiaaGreatDoorX.IB
open Go Go.RowKit
attribute [local irreducible] XS XC XA thenE blockE retE loopE loopS cutB cutN doneE SE
theorem both_nodes {t : RB IT} (h : RB.both t = true) : ∃ a x b c1 y d z e c2 c, t = .node (.node a x b c1) y (.node d z e c2) c := by
  cases t with
  | nil => cases h
  | node l y r c =>
    cases l with
    | nil => cases h
    | node a x b c1 =>
      cases r with
      | nil => cases h
      | node d z e c2 => exact ⟨_, _, _, _, _, _, _, _, _, _, rfl⟩
theorem sub_up {w0 w : World} {fp fp1 fp2 : List Nat} (h1 : ∀ k ∈ fp1, k ∈ fp ∨ w0.heap.size ≤ k) (h2 : ∀ k ∈ fp2, k ∈ fp1 ∨ w.heap.size ≤ k) (hz : w0.heap.size ≤ w.heap.size) : ∀ k ∈ fp2, k ∈ fp ∨ w0.heap.size ≤ k := fun k hk => by
  rcases h2 k hk with h | h
  · exact h1 k h
  · exact .inr (by omega)
set_option maxHeartbeats 2000000 in
theorem redLeft_ret (tb : Nat) (p0 : Option Addr) (n0 : Int) (t : RB IT) (p : Option Addr) (fp : List Nat) (w0 : World) (hT : w0.heap[tb]? = some (treeO p0 n0)) (h : TreeAt w0 t p fp) (hnd : fp.Nodup) (hlen : t.list.length ≤ 1000000) (hb : RB.both t = true) :
    Ret Tryz.prog 216 #[.pointer (some ⟨tb, 0, none⟩), .pointer p] w0 fun v w' => Turned w0 fp (RB.redLeft t) v w' := by
  obtain ⟨a, x, b, c1, y, d, z, e, c2, c, rfl⟩ := both_nodes hb
  clear hb
  have hs := St.nil w0
  refine ret_of_xc Tryz.func216 (by kernel_rfl) rfl Tryz.ntmps216 rfl rfl rfl ?_
  repeat' (first|refine vs (k:=?_)|refine qRg ?_|refine Nx.h ?_|fail)
  (with_reducible apply xs_call); exact rfl; exact rfl; exact rbFlip_ret a x b c1 y d z e c2 c p fp _ h hnd
  rintro v w1 ⟨k1, ho1⟩
  have hT1 := head_keep hT ho1 h.nodes
  clear hs h
  obtain ⟨m, av, pl, pr, fl, fr, rfl, rfl, hm, hav, hl, hr⟩ := k1
  have hr0 := hr
  obtain ⟨u, avu, pd, pe, fd, fe, rfl, rfl, hu, hau, hd, he⟩ := hr
  have hum : u ≠ m := fun e => by subst e; simp at hnd
  have hs := ((St.nil w1).track hm (by simp)).track hu (by simpa using hum)
  repeat' (first|refine vs (k:=?_)|refine qRg ?_|refine Nx.h ?_|fail)
  have ho2 : Only [] w1 _ := hs.onlyF [] (by simp [hm, hu]) (by simp [D0])
  (with_reducible apply xs_call); exact rfl; exact rfl; exact isRed_ret d pd fd _ (hd.keep ho2 (Nodes.nil _) (by simp))
  rintro v w' ⟨rfl, ho⟩; replace hs := hs.call0 ho
  cases hq : d.red
  · repeat' (first|refine vs (k:=?_)|refine qRg ?_|refine Nx.h ?_|refine qCf ?_|fail)
    first | refine rt (hq := ?_) | refine rt' (hq := ?_)
    have ho2 : Only [] w1 _ := hs.onlyF [] (by simp [hm, hu]) (by simp [D0])
    have e1 : RB.redLeft (.node (.node a x b c1) y (.node d z e c2) c) = .node (.node a x b !c1) y (.node d z e !c2) !c := by
      simp [RB.redLeft, RB.flip, RB.right_node, RB.left_node, hq]
    rw [e1]
    exact ⟨_, _, rfl, TreeAt.keep ho2 (Nodes.nil _) ⟨m, av, pl, _, fl, _, rfl, rfl, hm, hav, hl, hr0⟩ (by simp), hnd, fun k hk => .inl hk, ho1.step ho2 (by simp)⟩
  · obtain ⟨da, v, de, rfl⟩ := RB.red_true hq
    have e1 : RB.redLeft (.node (.node a x b c1) y (.node (.node da v de true) z e c2) c) = .node (.node (.node a x b !c1) y da (!true)) v (.node de z e (!true)) (!!c) := by
      simp [RB.redLeft, RB.flip, RB.right_node, RB.left_node, RB.red_node, RB.setR, RB.toRight, RB.toLeft]
    rw [e1]
    repeat' (first|refine vs (k:=?_)|refine qRg ?_|refine Nx.h ?_|refine qCt ?_|fail)
    have ho2 : Only [] w1 _ := hs.onlyF [] (by simp [hm, hu]) (by simp [D0])
    have hl2 := hl.keep ho2 (Nodes.nil _) (by simp)
    have hr2 := hr0.keep ho2 (Nodes.nil _) (by simp)
    have hm2 := hs.get (At.tail At.head)
    have hT2 := head_keep hT1 ho2 (Nodes.nil _)
    have hO2 : Only (m :: (fl ++ (u :: (fd ++ fe)))) w0 _ := ho1.step ho2 (by simp)
    simp only [RB.list, List.length_append, List.length_cons, List.append_assoc, List.cons_append] at hlen
    (with_reducible apply xs_call); exact rfl; exact rfl; exact toRight_ret tb p0 n0 da v de z e (!c2) true _ _ _ hT2 hr2.stale (by simp only [List.nodup_cons, List.nodup_append] at hnd ⊢; exact hnd.2.2.1) (by simp only [List.length_append, List.length_cons]; omega)
    rintro v' w2 hk
    obtain ⟨p', hv⟩ : ∃ p', v' = .pointer p' := by obtain ⟨p', _, hv, _⟩ := hk; exact ⟨p', hv⟩
    subst hv
    obtain ⟨_, _, _, _, _, _, k4⟩ := id hk
    have hT3 := head_keep hT2 k4 hr2.nodes
    have hm3 := k4.block hm2 (fun h => by simp only [List.nodup_cons, List.mem_append] at hnd; exact hnd.1 (.inr h))
    clear hs
    have hs := (St.nil w2).track hm3 (by simp)
    repeat' (first|refine vs (k:=?_)|(refine st hs (k:=?_);intro w hs)|refine qRg ?_|refine Nx.h ?_|fail)
    have ho3 : Only [m] w2 _ := hs.onlyF [m] (by simp) (by simp [D0])
    obtain ⟨fp2, s1, s2, s3, s4⟩ := graftR hm2 hl2 hr2.nodes hnd hk ho3 (hs.get At.head)
    have hsz := hO2.size
    have s3' := sub_up (fp := m :: (fl ++ (u :: (fd ++ fe)))) (fun k hk => .inl hk) s3 hsz
    have hO3 : Only (m :: (fl ++ (u :: (fd ++ fe)))) w0 _ := hO2.step s4 (fun k hk => .inl hk)
    have hT4 := head_keep hT3 ho3 (Nodes.cons hm3 (Nodes.nil _))
    clear hs
    have hs := St.nil w2
    (with_reducible apply xs_call); exact rfl; exact rfl; exact toLeft_ret tb p0 n0 (.node a x b !c1) y da v (.node de z e true) (!c) (!c2) _ fp2 _ hT4 s1 s2 (by simp only [RB.list, List.length_append, List.length_cons]; omega)
    rintro v' w4 ⟨p3, fp3, rfl, k1, k2, k3, k5⟩
    have hT5 := head_keep hT4 k5 s1.nodes
    have k3' := sub_up s3' k3 hO3.size
    have hO4 := hO3.step k5 s3'
    clear hs
    have hs := St.nil w4
    repeat' (first|refine vs (k:=?_)|refine qRg ?_|refine Nx.h ?_|fail)
    have ho6 := hs.only0 rfl
    (with_reducible apply xs_call); exact rfl; exact rfl; exact rbFlip_ret (.node a x b !c1) y da true v de z e true (!c) p3 fp3 _ (k1.keep ho6 (Nodes.nil _) (by simp)) k2
    rintro v' w5 ⟨k6, ho7⟩
    have hs := St.nil w5
    repeat' (first|refine vs (k:=?_)|refine qRg ?_|refine Nx.h ?_|fail)
    first | refine rt (hq := ?_) | refine rt' (hq := ?_)
    exact ⟨p3, fp3, rfl, k6, k2, k3', (hO4.step ho6 (by simp)).step ho7 k3'⟩
set_option maxHeartbeats 2000000 in
theorem redRight_ret (tb : Nat) (p0 : Option Addr) (n0 : Int) (t : RB IT) (p : Option Addr) (fp : List Nat) (w0 : World) (hT : w0.heap[tb]? = some (treeO p0 n0)) (h : TreeAt w0 t p fp) (hnd : fp.Nodup) (hlen : t.list.length ≤ 1000000) (hb : RB.both t = true) :
    Ret Tryz.prog 218 #[.pointer (some ⟨tb, 0, none⟩), .pointer p] w0 fun v w' => Turned w0 fp (RB.redRight t) v w' := by
  obtain ⟨a, x, b, c1, y, d, z, e, c2, c, rfl⟩ := both_nodes hb
  clear hb
  have hs := St.nil w0
  refine ret_of_xc Tryz.func218 (by kernel_rfl) rfl Tryz.ntmps218 rfl rfl rfl ?_
  repeat' (first|refine vs (k:=?_)|refine qRg ?_|refine Nx.h ?_|fail)
  (with_reducible apply xs_call); exact rfl; exact rfl; exact rbFlip_ret a x b c1 y d z e c2 c p fp _ h hnd
  rintro v w1 ⟨k1, ho1⟩
  have hT1 := head_keep hT ho1 h.nodes
  clear hs h
  have k0 := k1
  obtain ⟨m, av, pl, pr, fl, fr, rfl, rfl, hm, hav, hl, hr⟩ := k1
  obtain ⟨u, avu, pd, pe, fd, fe, rfl, rfl, hu, hau, hd, he⟩ := hl
  have hum : u ≠ m := fun e => by subst e; simp at hnd
  have hs := ((St.nil w1).track hm (by simp)).track hu (by simpa using hum)
  repeat' (first|refine vs (k:=?_)|refine qRg ?_|refine Nx.h ?_|fail)
  have ho2 : Only [] w1 _ := hs.onlyF [] (by simp [hm, hu]) (by simp [D0])
  (with_reducible apply xs_call); exact rfl; exact rfl; exact isRed_ret a pd fd _ (hd.keep ho2 (Nodes.nil _) (by simp))
  rintro v w' ⟨rfl, ho⟩; replace hs := hs.call0 ho
  cases hq : a.red
  · repeat' (first|refine vs (k:=?_)|refine qRg ?_|refine Nx.h ?_|refine qCf ?_|fail)
    first | refine rt (hq := ?_) | refine rt' (hq := ?_)
    have ho2 : Only [] w1 _ := hs.onlyF [] (by simp [hm, hu]) (by simp [D0])
    have e1 : RB.redRight (.node (.node a x b c1) y (.node d z e c2) c) = .node (.node a x b !c1) y (.node d z e !c2) !c := by
      simp [RB.redRight, RB.flip, RB.right_node, RB.left_node, hq]
    rw [e1]
    exact ⟨_, _, rfl, k0.keep ho2 (Nodes.nil _) (by simp), hnd, fun k hk => .inl hk, ho1.step ho2 (by simp)⟩
  · obtain ⟨da, v, de, rfl⟩ := RB.red_true hq
    have e1 : RB.redRight (.node (.node (.node da v de true) x b c1) y (.node d z e c2) c) = .node (.node da v de (!true)) x (.node b y (.node d z e !c2) (!true)) (!!c) := by
      simp [RB.redRight, RB.flip, RB.right_node, RB.left_node, RB.red_node, RB.toRight]
    rw [e1]
    repeat' (first|refine vs (k:=?_)|refine qRg ?_|refine Nx.h ?_|refine qCt ?_|fail)
    have ho2 : Only [] w1 _ := hs.onlyF [] (by simp [hm, hu]) (by simp [D0])
    have hT2 := head_keep hT1 ho2 (Nodes.nil _)
    have hO2 : Only (m :: ((u :: (fd ++ fe)) ++ fr)) w0 _ := ho1.step ho2 (by simp)
    simp only [RB.list, List.length_append, List.length_cons, List.append_assoc, List.cons_append] at hlen
    have k00 := k0.keep ho2 (Nodes.nil _) (by simp)
    (with_reducible apply xs_call); exact rfl; exact rfl; exact toRight_ret tb p0 n0 (.node da v de true) x b y (.node d z e !c2) (!c) (!c1) _ _ _ hT2 k00.stale hnd (by simp only [RB.list, List.length_append, List.length_cons]; omega)
    rintro v' w4 ⟨p3, fp3, rfl, k1, k2, k3, k5⟩
    have k3' := sub_up (fun k hk => .inl hk) k3 hO2.size
    have hO4 := hO2.step k5 (fun k hk => .inl hk)
    clear hs
    have hs := St.nil w4
    repeat' (first|refine vs (k:=?_)|refine qRg ?_|refine Nx.h ?_|fail)
    have ho6 := hs.only0 rfl
    (with_reducible apply xs_call); exact rfl; exact rfl; exact rbFlip_ret da v de true x b y (.node d z e !c2) true (!c) p3 fp3 _ (k1.keep ho6 (Nodes.nil _) (by simp)) k2
    rintro v' w5 ⟨k6, ho7⟩
    have hs := St.nil w5
    repeat' (first|refine vs (k:=?_)|refine qRg ?_|refine Nx.h ?_|fail)
    first | refine rt (hq := ?_) | refine rt' (hq := ?_)
    exact ⟨p3, fp3, rfl, k6, k2, k3', (hO4.step ho6 (by simp)).step ho7 k3'⟩
end Go.Proofs.YtilajmcellffiaaGreatDoorX.IB

namespace Go.Proofs.YtilajmcellffiaaGreatDoorX.IB
open Go Go.RowKit
attribute [local irreducible] XS XC XA thenE blockE retE loopE loopS cutB cutN doneE SE
theorem downL_list {t u : RB IT} (h : RB.downL t = some u) : u.list = t.list := by
  unfold RB.downL at h
  cases hq : (!t.left.red && !t.left.left.red)
  · rw [hq, cond_false] at h; cases h; rfl
  · rw [hq, cond_true] at h
    cases hb : RB.both t
    · rw [hb] at h; cases h
    · rw [hb, cond_true] at h; cases h
      exact RB.list_redLeft t
theorem downR_list {t u : RB IT} (h : RB.downR t = some u) : u.list = t.list := by
  unfold RB.downR at h
  cases hq : (!t.right.red && !t.right.left.red)
  · rw [hq, cond_false] at h; cases h; rfl
  · rw [hq, cond_true] at h
    cases hb : RB.both t
    · rw [hb] at h; cases h
    · rw [hb, cond_true] at h; cases h
      exact RB.list_redRight t
theorem cutMin_len : ∀ (k : Nat) (t t' : RB IT), RB.cutMin k t = some t' → t'.list.length ≤ t.list.length
  | 0, t, t', h => by cases h
  | k + 1, t, t', h => by
    simp only [RB.cutMin] at h
    cases h1 : t.isNil
    · rw [h1, cond_false] at h
      cases h2 : t.left.isNil
      · rw [h2, cond_false] at h
        cases hd : RB.downL t with
        | none => rw [hd] at h; cases h
        | some u =>
          rw [hd] at h
          cases u with
          | nil => cases h
          | node l x r c =>
            obtain ⟨l', hl, rfl⟩ := Option.map_eq_some_iff.1 h
            have := cutMin_len k l l' hl
            rw [RB.list_mend, ← downL_list hd]
            simp only [RB.list, List.length_append, List.length_cons]
            omega
      · rw [h2, cond_true] at h; cases h; simp [RB.list]
    · rw [h1, cond_true] at h; cases h
set_option maxHeartbeats 2000000 in
theorem cutMin_ret (tb : Nat) (p0 : Option Addr) (n0 : Int) : ∀ (k : Nat) (t t' : RB IT) (p : Option Addr) (fp : List Nat) (w0 : World) (hT : w0.heap[tb]? = some (treeO p0 n0)) (h : TreeAt w0 t p fp) (hnd : fp.Nodup) (hlen : t.list.length ≤ 1000000) (hc : RB.cutMin k t = some t'),
    Ret Tryz.prog 219 #[.pointer (some ⟨tb, 0, none⟩), .pointer p] w0 fun v w' => Turned w0 fp t' v w'
  | 0, t, t', p, fp, w0, hT, h, hnd, hlen, hc => by cases hc
  | k + 1, .nil, t', p, fp, w0, hT, h, hnd, hlen, hc => by cases hc
  | k + 1, .node .nil x r c, t', p, fp, w0, hT, h, hnd, hlen, hc => by
    simp only [RB.cutMin, RB.isNil, RB.left_node, cond_true, cond_false, Option.some.injEq] at hc
    subst hc
    obtain ⟨b, av, pl, pr, fl, fr, rfl, rfl, hb, hav, ⟨rfl, rfl⟩, hr⟩ := h
    have hs := (St.nil w0).track hb (by simp)
    refine ret_of_xc Tryz.func219 (by kernel_rfl) rfl Tryz.ntmps219 rfl rfl rfl ?_
    repeat' (first|refine vs (k:=?_)|refine qRg ?_|refine Nx.h ?_|refine qCt ?_|fail)
    first | refine rt (hq := ?_) | refine rt' (hq := ?_)
    exact ⟨none, [], rfl, ⟨rfl, rfl⟩, List.nodup_nil, (fun k hk => by cases hk), (hs.onlyF [] (by simp [hb]) (by simp [D0])).weaken (by simp)⟩
  | k + 1, .node (.node ll z lr lc) x r c, t', p, fp, w0, hT, h, hnd, hlen, hc => by
    rw [RB.cutMin] at hc
    simp only [RB.isNil, RB.left_node, cond_false] at hc
    have hH : Has w0 tb p0 n0 fp (.node (.node ll z lr lc) x r c) p w0 := ⟨⟨fp, h, hnd, fun k hk => .inl hk, Only.refl _ _⟩, hT⟩
    obtain ⟨b, av, pl, pr, fl, fr, rfl, hf, hb, hav, hl, hr⟩ := h
    have hl0 := hl
    obtain ⟨u, avu, pll, plr, fll, flr, rfl, rfl, hu, hau, hll, hlr⟩ := hl
    have hub : u ≠ b := fun e => by subst e; rw [hf] at hnd; simp at hnd
    have hs := ((St.nil w0).track hb (by simp)).track hu (by simpa using hub)
    refine ret_of_xc Tryz.func219 (by kernel_rfl) rfl Tryz.ntmps219 rfl rfl rfl ?_
    repeat' (first|refine Nx.h ?_|fail)
    refine xc_region ?_ ?_; exact rfl
    repeat' (first|refine vs (k:=?_)|refine Nx.h ?_|fail)
    refine xc_region ?_ ?_; exact rfl
    repeat' (first|refine vs (k:=?_)|refine Nx.h ?_|refine qCf ?_|fail)
    refine xc_cutN (fun _ : Unit => [(0, .pointer (some ⟨tb, 0, none⟩)), (1, .pointer (some ⟨b, 0, none⟩)), (4, .pointer none), (26, .bool (!lc && !ll.red))]) (fun _ w => Has w0 tb p0 n0 fp (.node (.node ll z lr lc) x r c) (some ⟨b, 0, none⟩) w) ?_ ?_
    · repeat' (first|refine vs (k:=?_)|refine qRg ?_|fail)
      have ho2 : Only [] w0 _ := hs.onlyF [] (by simp [hb, hu]) (by simp [D0])
      (with_reducible apply xs_call); exact rfl; exact rfl; exact isRed_ret _ _ _ _ (hl0.keep ho2 (Nodes.nil _) (by simp))
      rintro v w' ⟨rfl, ho⟩; replace hs := hs.call0 ho
      rw [RB.red_node]
      cases lc
      · repeat' (first|refine vs (k:=?_)|fail)
        have ho2 : Only [] w0 _ := hs.onlyF [] (by simp [hb, hu]) (by simp [D0])
        (with_reducible apply xs_call); exact rfl; exact rfl; exact isRed_ret _ _ _ _ (hll.keep ho2 (Nodes.nil _) (by simp))
        rintro v w' ⟨rfl, ho⟩; replace hs := hs.call0 ho
        generalize hq2 : ll.red = q2
        repeat' (first|refine vs (k:=?_)|refine Nx.h ?_|fail)
        exact cutN_normal () (by (repeat (first | exact agree_nil | (apply agree_cons; exact rfl)))) (hH.only (hs.onlyF [] (by simp [hb, hu]) (by simp [D0])))
      · repeat' (first|refine vs (k:=?_)|refine ps (k:=?_)|refine Nx.h ?_|fail)
        exact cutN_normal () (by (repeat (first | exact agree_nil | (apply agree_cons; exact rfl)))) (hH.only (hs.onlyF [] (by simp [hb, hu]) (by simp [D0])))
    clear hH hs hb hav hl0 hu hau hll hlr hr
    rintro _ env w hH
    obtain ⟨d, hd⟩ : ∃ d, RB.downL (.node (.node ll z lr lc) x r c) = some d := by
      cases hd : RB.downL (.node (.node ll z lr lc) x r c) with
      | none => rw [hd] at hc; cases hc
      | some d => exact ⟨d, rfl⟩
    rw [hd] at hc
    have hdl := downL_list hd
    refine xc_cutN (fun s : Option Addr => [(0, .pointer (some ⟨tb, 0, none⟩)), (1, .pointer s), (4, .pointer none)]) (fun s w => Has w0 tb p0 n0 fp d s w) ?_ ?_
    · unfold RB.downL at hd
      rw [RB.left_node, RB.red_node, RB.left_node] at hd
      generalize hq : (!lc && !ll.red) = q at *
      cases q
      · repeat' (first|refine Nx.h ?_|refine qCf ?_|fail)
        cases hd
        exact cutN_normal _ (by (repeat (first | exact agree_nil | (apply agree_cons; exact rfl)))) hH
      · rw [cond_true] at hd
        cases hbo : RB.both (.node (.node ll z lr lc) x r c)
        · rw [hbo] at hd; cases hd
        rw [hbo, cond_true] at hd
        cases hd
        obtain ⟨⟨fp1, h1, h2, h3, h4⟩, h5⟩ := hH
        have hs := St.nil w
        repeat' (first|refine vs (k:=?_)|refine qRg ?_|refine qCt ?_|fail)
        (with_reducible apply xs_call); exact rfl; exact rfl; exact redLeft_ret tb p0 n0 _ _ _ _ h5 h1 h2 hlen hbo
        rintro v w' hv
        obtain ⟨p', rfl, hH⟩ := Has.next h1 h3 h4 h5 hv
        have hs := St.nil w'
        repeat' (first|refine vs (k:=?_)|refine Nx.h ?_|fail)
        exact cutN_normal p' (by (repeat (first | exact agree_nil | (apply agree_cons; exact rfl)))) hH
    clear hH
    rintro p1 env w hH
    cases d with
    | nil => cases hc
    | node l1 x1 r1 c1 =>
    obtain ⟨l', hl', rfl⟩ := Option.map_eq_some_iff.1 hc
    obtain ⟨⟨fp1, ⟨b, av, pl, pr, fl, fr, rfl, rfl, hb, hav, hl, hr⟩, h2, h3, h4⟩, h5⟩ := hH
    have hbt := head_ne h5 hb
    have hs := (St.nil w).track hb (by simp)
    rw [← hdl] at hlen
    simp only [RB.list, List.length_append, List.length_cons] at hlen
    repeat' (first|refine vs (k:=?_)|refine qRg ?_|refine Nx.h ?_|fail)
    have ho1 : Only [] w _ := hs.onlyF [] (by simp [hb]) (by simp [D0])
    have hlw := hl.keep ho1 (Nodes.nil _) (by simp)
    have hrw := hr.keep ho1 (Nodes.nil _) (by simp)
    have hbw := hs.get At.head
    have hTw := head_keep h5 ho1 (Nodes.nil _)
    (with_reducible apply xs_call); exact rfl; exact rfl; exact cutMin_ret tb p0 n0 k l1 l' pl fl _ hTw hlw (by simp only [List.nodup_cons, List.nodup_append] at h2; exact h2.2.1) (by omega) hl'
    rintro v w' hk
    obtain ⟨p', hv⟩ : ∃ p', v = .pointer p' := by obtain ⟨p', _, hv, _⟩ := hk; exact ⟨p', hv⟩
    subst hv
    obtain ⟨_, _, _, _, _, _, k4⟩ := id hk
    have hT1 := head_keep hTw k4 hlw.nodes
    have hb1 := k4.block hbw (fun h => by simp [h] at h2)
    clear hs
    have hs := (St.nil w').track hb1 (by simp)
    repeat' (first|refine vs (k:=?_)|(refine st hs (k:=?_);intro w hs)|refine qRg ?_|refine Nx.h ?_|fail)
    have ho3 : Only [b] w' _ := hs.onlyF [b] (by simp) (by simp [D0])
    obtain ⟨fp2, s1, s2, s3, s4⟩ := graftL hbw hlw.nodes hrw h2 hk ho3 (hs.get At.head)
    have hln := cutMin_len k l1 l' hl'
    (with_reducible apply xs_call); exact rfl; exact rfl; exact mend_ret tb p0 n0 _ x1 _ c1 _ _ _ (head_keep hT1 ho3 (Nodes.cons hb1 (Nodes.nil _))) s1 s2 (by simp only [List.length_append, List.length_cons]; omega)
    rintro v w3 hm
    have hO := (h4.step ho1 (by simp)).step s4 h3
    have hm2 := hm.up hO (sub_up h3 s3 (h4.step ho1 (by simp)).size)
    have hs := St.nil w3
    repeat' (first|refine vs (k:=?_)|refine Nx.h ?_|fail)
    first | refine rt (hq := ?_) | refine rt' (hq := ?_)
    exact hm2
end Go.Proofs.YtilajmcellffiaaGreatDoorX.IB

namespace Go.Proofs.YtilajmcellffiaaGreatDoorX.IB
open Go Go.RowKit
attribute [local irreducible] XS XC XA thenE blockE retE loopE loopS cutB cutN doneE SE
abbrev itqO (a : It) : Obj := .cells #[.int .u64 a.p.t, .int .u32 a.p.r, .int .u32 a.p.w, .int .i64 a.id, .int .u64 a.d.t, .int .u32 a.d.r, .int .u32 a.d.w] 29 (0, 0)
theorem nodes_q {w : World} {F : List Nat} (h : Nodes w F) {bq : Nat} {a : It} (hQ : w.heap[bq]? = some (itqO a)) : bq ∉ F := fun hm => by
  obtain ⟨cs, fz, h1⟩ := h bq hm
  exact blocks_ne hQ h1 (by decide) rfl
structure HasQ (bq : Nat) (a : It) (w0 : World) (tb : Nat) (p0 : Option Addr) (n0 : Int) (fp : List Nat) (t : RB IT) (p : Option Addr) (w : World) : Prop where
  base : Has w0 tb p0 n0 fp t p w
  q : w.heap[bq]? = some (itqO a)
theorem HasQ.only {bq : Nat} {a : It} {w0 w w' : World} {tb : Nat} {p0 : Option Addr} {n0 : Int} {fp : List Nat} {t : RB IT} {p : Option Addr} (h : HasQ bq a w0 tb p0 n0 fp t p w) (ho : Only [] w w') : HasQ bq a w0 tb p0 n0 fp t p w' := ⟨h.base.only ho, ho.block h.q (by simp)⟩
theorem HasQ.next {bq : Nat} {a : It} {w0 w w' : World} {tb : Nat} {p0 : Option Addr} {n0 : Int} {fp fp1 : List Nat} {t t' : RB IT} {p : Option Addr} {v : Value} (h1 : TreeAt w t p fp1) (h2 : ∀ k ∈ fp1, k ∈ fp ∨ w0.heap.size ≤ k) (h3 : Only fp w0 w) (h4 : w.heap[tb]? = some (treeO p0 n0)) (hQ : w.heap[bq]? = some (itqO a)) (k : Turned w fp1 t' v w') :
    ∃ p', v = .pointer p' ∧ HasQ bq a w0 tb p0 n0 fp t' p' w' := by
  obtain ⟨p', e, h⟩ := Has.next h1 h2 h3 h4 k
  obtain ⟨_, _, _, _, _, _, ko⟩ := k
  exact ⟨p', e, h, ko.block hQ (nodes_q h1.nodes hQ)⟩
theorem cut_len (x : IT) : ∀ (k : Nat) (t t' : RB IT), RB.cut ltT x k t = some t' → t'.list.length ≤ t.list.length
  | 0, t, t', h => by cases h
  | k + 1, .nil, t', h => by cases h
  | k + 1, .node l y r c, t', h => by
    rw [RB.cut] at h
    cases hxy : ltT x y
    · rw [hxy, cond_false] at h
      have hu : (bif l.red then RB.toRight (.node l y r c) else .node l y r c : RB IT).list = (RB.node l y r c).list := by
        cases l.red
        · rfl
        · exact RB.list_toRight _
      generalize (bif l.red then RB.toRight (.node l y r c) else .node l y r c : RB IT) = u at h hu
      cases h2 : u.right.isNil
      · rw [h2, cond_false] at h
        cases hd : RB.downR u with
        | none => rw [hd] at h; cases h
        | some d =>
          rw [hd] at h
          have hdl := downR_list hd
          cases d with
          | nil => cases h
          | node l2 y2 r2 c2 =>
            simp only at h
            rw [← hu, ← hdl]
            cases h3 : ltT y2 x
            · rw [h3, cond_false] at h
              cases hm : RB.least r2 with
              | none => rw [hm] at h; cases h
              | some m =>
                rw [hm] at h
                obtain ⟨r', hr', rfl⟩ := Option.map_eq_some_iff.1 h
                have := cutMin_len k r2 r' hr'
                rw [RB.list_mend]
                simp only [RB.list, List.length_append, List.length_cons]
                omega
            · rw [h3, cond_true] at h
              obtain ⟨r', hr', rfl⟩ := Option.map_eq_some_iff.1 h
              have := cut_len x k r2 r' hr'
              rw [RB.list_mend]
              simp only [RB.list, List.length_append, List.length_cons]
              omega
      · rw [h2, cond_true] at h; cases h; simp [RB.list]
    · rw [hxy, cond_true] at h
      cases h2 : l.isNil
      · rw [h2, cond_false] at h
        cases hd : RB.downL (.node l y r c) with
        | none => rw [hd] at h; cases h
        | some d =>
          rw [hd] at h
          have hdl := downL_list hd
          cases d with
          | nil => cases h
          | node l2 y2 r2 c2 =>
            obtain ⟨l', hl', rfl⟩ := Option.map_eq_some_iff.1 h
            have := cut_len x k l2 l' hl'
            rw [RB.list_mend, ← hdl]
            simp only [RB.list, List.length_append, List.length_cons]
            omega
      · rw [h2, cond_true] at h; cases h
set_option maxHeartbeats 4000000 in
theorem cut_ret (tb : Nat) (p0 : Option Addr) (n0 : Int) (x : IT) : ∀ (k : Nat) (t t' : RB IT) (p : Option Addr) (fp : List Nat) (w0 : World) (hT : w0.heap[tb]? = some (treeO p0 n0)) (h : TreeAt w0 t p fp) (hnd : fp.Nodup) (hlen : t.list.length ≤ 1000000) (hc : RB.cut ltT x k t = some t'),
    Ret Tryz.prog 178 #[.pointer (some ⟨tb, 0, none⟩), .pointer p, iv x.1] w0 fun v w' => Turned w0 fp t' v w'
  | 0, t, t', p, fp, w0, hT, h, hnd, hlen, hc => by cases hc
  | k + 1, .nil, t', p, fp, w0, hT, h, hnd, hlen, hc => by cases hc
  | k + 1, .node l y r c, t', p, fp, w0, hT, h, hnd, hlen, hc => by
    rw [RB.cut] at hc
    have hH0 : Has w0 tb p0 n0 fp (.node l y r c) p w0 := ⟨⟨fp, h, hnd, fun k hk => .inl hk, Only.refl _ _⟩, hT⟩
    obtain ⟨b, av, pl, pr, fl, fr, rfl, hf, hb, hav, hl, hr⟩ := h
    have hbt := head_ne hT hb
    have hs := ((St.nil w0).track hT (by simp)).track hb (by simpa using hbt)
    refine ret_of_xc Tryz.func178 (by kernel_rfl) rfl Tryz.ntmps178 rfl rfl rfl ?_; refine xc_seq ?_; refine xc_region ?_ ?_; exact rfl; refine bx hs (k := ?_); intro bq wq hzq hs; repeat' (first|refine vs (k:=?_)|refine Nx.h ?_|fail)
    have hbq := hs.new (bq, true) (by simp) rfl
    simp only at hbq
    refine dr [] hs (k := ?_); intro hX w hs
    refine tk 0 hX (k := ?_)
    refine tk 1 hX (k := ?_)
    refine tk 2 hX (k := ?_)
    refine tk 3 hX (k := ?_)
    refine tk 4 hX (k := ?_)
    refine tk 5 hX (k := ?_)
    refine tk 6 hX (k := ?_)
    refine tk 7 hX (k := ?_)
    refine tk 8 hX (k := ?_)
    refine dt 9 hX (k := ?_)
    (with_reducible apply xs_call); exact rfl; exact rfl; exact ahd_ret x y _
    rintro v w1 ⟨rfl, ho⟩; replace hs := hs.call0 ho
    repeat' (first|refine Nx.h ?_|fail)
    refine dn (k := ?_)
    refine en (k := ?_)
    have ho1 : Only [] w0 w1 := hs.onlyF [] (by simp [hT, hb]) (by simp [D0])
    have hQ := hs.get At.head
    have hH : HasQ bq x.1 w0 tb p0 n0 fp (.node l y r c) (some ⟨b, 0, none⟩) w1 := ⟨hH0.only ho1, hQ⟩
    have hT1 := hs.get (At.tail (At.tail At.head))
    have hb1 := hs.get (At.tail At.head)
    have hl1 := hl.keep ho1 (Nodes.nil _) (by simp)
    have hr1 := hr.keep ho1 (Nodes.nil _) (by simp)
    generalize hq : ltT x y = q
    rw [show ltT x y = q from hq] at hc
    clear hs hH0 hT hb hl hr ho hav
    cases q
    · rw [cond_false] at hc
      have hs := (St.nil w1).track hb1 (by simp)
      repeat' (first|refine Nx.h ?_|refine qCf ?_|fail)
      refine xc_cutN (fun _ : Unit => [(0, .pointer (some ⟨tb, 0, none⟩)), (1, .pointer (some ⟨b, 0, none⟩)), (5, .pointer (some ⟨bq, 0, none⟩)), (6, .pointer none), (55, .bool l.red)]) (fun _ w => HasQ bq x.1 w0 tb p0 n0 fp (.node l y r c) (some ⟨b, 0, none⟩) w) ?_ ?_
      · repeat' (first|refine vs (k:=?_)|refine qRg ?_|fail)
        have ho2 : Only [] w1 _ := hs.onlyF [] (by simp [hb1]) (by simp [D0])
        (with_reducible apply xs_call); exact rfl; exact rfl; exact isRed_ret _ _ _ _ (hl1.keep ho2 (Nodes.nil _) (by simp))
        rintro v w' ⟨rfl, ho⟩; replace hs := hs.call0 ho
        generalize hq2 : l.red = q2
        repeat' (first|refine Nx.h ?_|fail)
        exact cutN_normal () (by (repeat (first | exact agree_nil | (apply agree_cons; exact rfl)))) (hH.only (hs.onlyF [] (by simp [hb1]) (by simp [D0])))
      clear hH hs hb1 hl1 hr1 hT1
      rintro _ env w hH
      refine xc_cutN (fun s : Option Addr => [(0, .pointer (some ⟨tb, 0, none⟩)), (1, .pointer s), (5, .pointer (some ⟨bq, 0, none⟩)), (6, .pointer none)]) (fun s w => HasQ bq x.1 w0 tb p0 n0 fp (bif l.red then RB.toRight (.node l y r c) else .node l y r c) s w) ?_ ?_
      · cases hq2 : l.red
        · repeat' (first|refine Nx.h ?_|refine qCf ?_|fail)
          exact cutN_normal _ (by (repeat (first | exact agree_nil | (apply agree_cons; exact rfl)))) hH
        · obtain ⟨ll, z, lr, rfl⟩ := RB.red_true hq2
          obtain ⟨⟨⟨fp1, h1, h2, h3, h4⟩, h5⟩, hQ⟩ := hH
          have hs := St.nil w
          repeat' (first|refine vs (k:=?_)|refine qRg ?_|refine qCt ?_|fail)
          (with_reducible apply xs_call); exact rfl; exact rfl; exact toRight_ret tb p0 n0 ll z lr y r c true _ _ _ h5 h1.stale h2 (by simpa [RB.list] using hlen)
          rintro v w' hv
          obtain ⟨p', rfl, hH⟩ := HasQ.next h1 h3 h4 h5 hQ hv
          have hs := St.nil w'
          repeat' (first|refine vs (k:=?_)|refine Nx.h ?_|fail)
          exact cutN_normal p' (by (repeat (first | exact agree_nil | (apply agree_cons; exact rfl)))) hH
      clear hH
      rintro p1 env w hH
      obtain ⟨l1, y1, r1, c1, hu, hul⟩ : ∃ l1 y1 r1 c1, (bif l.red then RB.toRight (.node l y r c) else .node l y r c : RB IT) = .node l1 y1 r1 c1 ∧ (RB.node l1 y1 r1 c1).list = (RB.node l y r c).list := by
        cases hq2 : l.red
        · exact ⟨_, _, _, _, rfl, rfl⟩
        · obtain ⟨ll, z, lr, rfl⟩ := RB.red_true hq2
          exact ⟨_, _, _, _, rfl, RB.list_toRight (.node (.node ll z lr true) y r c)⟩
      rw [hu] at hH hc
      rw [RB.right_node] at hc
      obtain ⟨⟨⟨fp1, ⟨b, av, pl, pr, fl, fr, rfl, hf1, hb, hav, hl, hr⟩, h2, h3, h4⟩, h5⟩, hQ⟩ := hH
      have hH : HasQ bq x.1 w0 tb p0 n0 fp (.node l1 y1 r1 c1) (some ⟨b, 0, none⟩) w := ⟨⟨⟨fp1, ⟨b, av, pl, pr, fl, fr, rfl, hf1, hb, hav, hl, hr⟩, h2, h3, h4⟩, h5⟩, hQ⟩
      cases r1 with
      | nil =>
        simp only [RB.isNil, cond_true, Option.some.injEq] at hc
        subst hc
        obtain ⟨rfl, rfl⟩ := hr
        have hs := (St.nil w).track hb (by simp)
        repeat' (first|refine vs (k:=?_)|refine qRg ?_|refine Nx.h ?_|refine qCt ?_|fail)
        first | refine rt (hq := ?_) | refine rt' (hq := ?_)
        exact ⟨none, [], rfl, ⟨rfl, rfl⟩, List.nodup_nil, (fun k hk => by cases hk), h4.step (hs.onlyF [] (by simp [hb]) (by simp [D0])) (by simp)⟩
      | node rl z rr rc =>
      simp only [RB.isNil, cond_false] at hc
      have hr0 := hr
      obtain ⟨u, avu, pll, plr, fll, flr, rfl, hf2, hu', hau, hll, hlr⟩ := hr
      have hub : u ≠ b := fun e => by subst e; rw [hf1, hf2] at h2; simp at h2
      have hs := ((St.nil w).track hb (by simp)).track hu' (by simpa using hub)
      repeat' (first|refine Nx.h ?_|fail)
      refine xc_region ?_ ?_; exact rfl
      repeat' (first|refine vs (k:=?_)|refine Nx.h ?_|refine qCf ?_|fail)
      refine xc_cutN (fun _ : Unit => [(0, .pointer (some ⟨tb, 0, none⟩)), (1, .pointer (some ⟨b, 0, none⟩)), (5, .pointer (some ⟨bq, 0, none⟩)), (6, .pointer none), (80, .bool (!rc && !rl.red))]) (fun _ w => HasQ bq x.1 w0 tb p0 n0 fp (.node l1 y1 (.node rl z rr rc) c1) (some ⟨b, 0, none⟩) w) ?_ ?_
      · repeat' (first|refine vs (k:=?_)|refine qRg ?_|fail)
        have ho2 : Only [] w _ := hs.onlyF [] (by simp [hb, hu']) (by simp [D0])
        (with_reducible apply xs_call); exact rfl; exact rfl; exact isRed_ret _ _ _ _ (hr0.keep ho2 (Nodes.nil _) (by simp))
        rintro v w' ⟨rfl, ho⟩; replace hs := hs.call0 ho
        rw [RB.red_node]
        cases rc
        · repeat' (first|refine vs (k:=?_)|fail)
          have ho2 : Only [] w _ := hs.onlyF [] (by simp [hb, hu']) (by simp [D0])
          (with_reducible apply xs_call); exact rfl; exact rfl; exact isRed_ret _ _ _ _ (hll.keep ho2 (Nodes.nil _) (by simp))
          rintro v w' ⟨rfl, ho⟩; replace hs := hs.call0 ho
          generalize hq2 : rl.red = q2
          repeat' (first|refine vs (k:=?_)|refine Nx.h ?_|fail)
          exact cutN_normal () (by (repeat (first | exact agree_nil | (apply agree_cons; exact rfl)))) (hH.only (hs.onlyF [] (by simp [hb, hu']) (by simp [D0])))
        · repeat' (first|refine vs (k:=?_)|refine ps (k:=?_)|refine Nx.h ?_|fail)
          exact cutN_normal () (by (repeat (first | exact agree_nil | (apply agree_cons; exact rfl)))) (hH.only (hs.onlyF [] (by simp [hb, hu']) (by simp [D0])))
      clear hH hs hb hl hr0 hu' hau hll hlr h2 h3 h4 h5 hav hf1 hf2
      rintro _ env w hH
      obtain ⟨d, hd⟩ : ∃ d, RB.downR (.node l1 y1 (.node rl z rr rc) c1) = some d := by
        cases hd : RB.downR (.node l1 y1 (.node rl z rr rc) c1) with
        | none => rw [hd] at hc; cases hc
        | some d => exact ⟨d, rfl⟩
      rw [hd] at hc
      have hdl := downR_list hd
      rw [hul] at hdl
      refine xc_cutN (fun s : Option Addr => [(0, .pointer (some ⟨tb, 0, none⟩)), (1, .pointer s), (5, .pointer (some ⟨bq, 0, none⟩)), (6, .pointer none)]) (fun s w => HasQ bq x.1 w0 tb p0 n0 fp d s w) ?_ ?_
      · unfold RB.downR at hd
        rw [RB.right_node, RB.red_node, RB.left_node] at hd
        generalize hq : (!rc && !rl.red) = q at *
        cases q
        · repeat' (first|refine Nx.h ?_|refine qCf ?_|fail)
          cases hd
          exact cutN_normal _ (by (repeat (first | exact agree_nil | (apply agree_cons; exact rfl)))) hH
        · rw [cond_true] at hd
          cases hbo : RB.both (.node l1 y1 (.node rl z rr rc) c1)
          · rw [hbo] at hd; cases hd
          rw [hbo, cond_true] at hd
          cases hd
          obtain ⟨⟨⟨fp1, h1, h2, h3, h4⟩, h5⟩, hQ⟩ := hH
          have hs := St.nil w
          repeat' (first|refine vs (k:=?_)|refine qRg ?_|refine qCt ?_|fail)
          (with_reducible apply xs_call); exact rfl; exact rfl; exact redRight_ret tb p0 n0 _ _ _ _ h5 h1 h2 (by rw [hul]; exact hlen) hbo
          rintro v w' hv
          obtain ⟨p', rfl, hH⟩ := HasQ.next h1 h3 h4 h5 hQ hv
          have hs := St.nil w'
          repeat' (first|refine vs (k:=?_)|refine Nx.h ?_|fail)
          exact cutN_normal p' (by (repeat (first | exact agree_nil | (apply agree_cons; exact rfl)))) hH
      clear hH
      rintro p2 env wB hH
      cases d with
      | nil => cases hc
      | node l2 y2 r2 c2 =>
      simp only at hc
      obtain ⟨⟨⟨fp1, ⟨b, av, pl, pr, fl, fr, rfl, rfl, hb, hav, hl, hr⟩, h2, h3, h4⟩, h5⟩, hQ⟩ := hH
      have hbt := head_ne h5 hb
      have n1 := blocks_ne hQ hb (by decide)
      have n2 := blocks_ne hQ h5 (by decide)
      have hs := (((St.nil wB).track h5 (by simp)).track hb (by simpa using hbt)).track hQ (by simp [n1, n2])
      rw [← hdl] at hlen
      simp only [RB.list, List.length_append, List.length_cons] at hlen
      repeat' (first|refine Nx.h ?_|fail)
      refine dr [] hs (k := ?_); intro hX w hs
      refine tk 0 hX (k := ?_)
      refine tk 1 hX (k := ?_)
      refine tk 2 hX (k := ?_)
      refine tk 3 hX (k := ?_)
      refine tk 4 hX (k := ?_)
      refine tk 5 hX (k := ?_)
      refine tk 6 hX (k := ?_)
      refine tk 7 hX (k := ?_)
      refine tk 8 hX (k := ?_)
      refine dt 9 hX (k := ?_)
      (with_reducible apply xs_call); exact rfl; exact rfl; exact ahd_ret y2 x _
      rintro v w' ⟨rfl, ho⟩; replace hs := hs.call0 ho
      repeat' (first|refine Nx.h ?_|fail)
      refine dn (k := ?_)
      refine en (k := ?_)
      generalize hq3 : ltT y2 x = q3
      rw [show ltT y2 x = q3 from hq3] at hc
      have ho1 : Only [] wB _ := hs.onlyF [] (by simp [h5, hb, hQ]) (by simp [D0])
      have hlw := hl.keep ho1 (Nodes.nil _) (by simp)
      have hrw := hr.keep ho1 (Nodes.nil _) (by simp)
      have hbw := hs.get (At.tail At.head)
      have hTw := hs.get (At.tail (At.tail At.head))
      have hQw := hs.get At.head
      have hO1 := h4.step ho1 (by simp)
      have hndr : fr.Nodup := by simp only [List.nodup_cons, List.nodup_append] at h2; exact h2.2.2.1
      cases q3
      · rw [cond_false] at hc
        obtain ⟨m, hm⟩ : ∃ m, RB.least r2 = some m := by
          cases hm : RB.least r2 with
          | none => rw [hm] at hc; cases hc
          | some m => exact ⟨m, rfl⟩
        rw [hm] at hc
        obtain ⟨r', hr', rfl⟩ := Option.map_eq_some_iff.1 hc
        clear hs
        have hs := (St.nil w').track hbw (by simp)
        repeat' (first|refine vs (k:=?_)|refine qRg ?_|refine Nx.h ?_|refine qCf ?_|fail)
        refine xc_cutB (fun q : Nat => [(0, .pointer (some ⟨tb, 0, none⟩)), (1, .pointer (some ⟨b, 0, none⟩)), (5, .pointer (some ⟨bq, 0, none⟩)), (6, .pointer none), (7, .pointer (some ⟨q, 0, none⟩))]) (fun q w2 => Only [] w' w2 ∧ q ∈ fr ∧ ∃ av' pl' pr' c', w'.heap[q]? = some (nodeO m av' pl' pr' c')) ?_ ?_
        · refine xc_loopS (fun (s : RB IT × Option Addr) => [(0, .pointer (some ⟨tb, 0, none⟩)), (1, .pointer (some ⟨b, 0, none⟩)), (5, .pointer (some ⟨bq, 0, none⟩)), (6, .pointer none), (7, .pointer s.2)])
            (fun s w2 => Only [] w' w2 ∧ RB.least s.1 = some m ∧ ∃ fps, TreeAt w' s.1 s.2 fps ∧ ∀ k ∈ fps, k ∈ fr)
            (fun s => s.1.list.length) (r2, pr) (by (repeat (first | exact agree_nil | (apply agree_cons; exact rfl)))) ⟨hs.onlyF [] (by simp [hbw]) (by simp [D0]), hm, fr, hrw, fun k hk => hk⟩ fun s env w2 ⟨g1, g2, fps, g3, g4⟩ => ?_
          clear hs
          obtain ⟨s, ps⟩ := s
          dsimp only at g2 g3 ⊢
          cases s with
          | nil => cases g2
          | node sl sz sr sc =>
          obtain ⟨q, avq, pql, pqr, fql, fqr, rfl, rfl, hqb, hqa, hql, hqr⟩ := g3
          have hq2 := g1.block hqb (by simp)
          have hs := (St.nil w2).track hq2 (by simp)
          cases sl with
          | nil =>
            obtain ⟨rfl, rfl⟩ := hql
            simp only [RB.least, Option.some.injEq] at g2
            subst g2
            repeat' (first|refine vs (k:=?_)|refine qRg ?_|refine Nx.h ?_|refine qCf ?_|fail)
            exact cutB_exit q (by (repeat (first | exact agree_nil | (apply agree_cons; exact rfl)))) ⟨g1.step (hs.onlyF [] (by simp [hq2]) (by simp [D0])) (by simp), g4 q List.mem_cons_self, _, _, _, _, hqb⟩
          | node a1 a2 a3 a4 =>
            have hql0 := hql
            obtain ⟨_, _, _, _, _, _, rfl, _⟩ := hql
            repeat' (first|refine vs (k:=?_)|refine qRg ?_|refine Nx.h ?_|refine qCt ?_|fail)
            exact loopS_next (.node a1 a2 a3 a4, _) (by simp only [RB.list, List.length_append, List.length_cons]; omega) (by (repeat (first | exact agree_nil | (apply agree_cons; exact rfl)))) ⟨g1.step (hs.onlyF [] (by simp [hq2]) (by simp [D0])) (by simp), g2, fql, hql0, fun k hk => g4 k (List.mem_cons_of_mem _ (List.mem_append_left _ hk))⟩
        · clear hs
          rintro q env w2 ⟨g1, g2, avq, plq, prq, cq, g3⟩
          have hqb : q ≠ b := fun e => by subst e; simp [g2] at h2
          have hb2 := g1.block hbw (by simp)
          have hq2 := g1.block g3 (by simp)
          have hs := ((St.nil w2).track hb2 (by simp)).track hq2 (by simpa using hqb)
          repeat' (first|refine vs (k:=?_)|(refine stA hs (k:=?_);intro w hs)|refine qRg ?_|refine Nx.h ?_|fail)
          have ho2 : Only [b] w2 _ := hs.onlyF [b] (by simp [hq2]) (by simp [D0])
          have hN : Nodes w2 [b] := Nodes.cons hb2 (Nodes.nil _)
          have hbn : b ∉ fl ∧ b ∉ fr := by simp only [List.nodup_cons, List.mem_append, not_or] at h2; exact h2.1
          have hl3 := (hlw.keep g1 (Nodes.nil _) (by simp)).keep ho2 hN (fun k hk hm => by obtain rfl := List.mem_singleton.1 hm; exact hbn.1 hk)
          have hr3 := (hrw.keep g1 (Nodes.nil _) (by simp)).keep ho2 hN (fun k hk hm => by obtain rfl := List.mem_singleton.1 hm; exact hbn.2 hk)
          have hb3 := hs.get (At.tail At.head)
          have hT3 := head_keep (head_keep hTw g1 (Nodes.nil _)) ho2 hN
          have hO3 := (hO1.step g1 (by simp)).step ho2 (fun k hk => by obtain rfl := List.mem_singleton.1 hk; exact h3 k List.mem_cons_self)
          (with_reducible apply xs_call); exact rfl; exact rfl; exact cutMin_ret tb p0 n0 k r2 r' pr fr _ hT3 hr3 hndr (by omega) hr'
          rintro v w4 hk
          obtain ⟨p', hv⟩ : ∃ p', v = .pointer p' := by obtain ⟨p', _, hv, _⟩ := hk; exact ⟨p', hv⟩
          subst hv
          obtain ⟨_, _, _, _, _, _, k4⟩ := id hk
          have hT4 := head_keep hT3 k4 hr3.nodes
          have hb4 := k4.block hb3 hbn.2
          clear hs
          have hs := (St.nil w4).track hb4 (by simp)
          repeat' (first|refine vs (k:=?_)|(refine st hs (k:=?_);intro w hs)|refine qRg ?_|refine Nx.h ?_|fail)
          have ho5 : Only [b] w4 _ := hs.onlyF [b] (by simp) (by simp [D0])
          obtain ⟨fp2, s1, s2, s3, s4⟩ := graftR hb3 hl3 hr3.nodes h2 hk ho5 (hs.get At.head)
          have hln := cutMin_len k r2 r' hr'
          (with_reducible apply xs_call); exact rfl; exact rfl; exact mend_ret tb p0 n0 _ m _ c2 _ _ _ (head_keep hT4 ho5 (Nodes.cons hb4 (Nodes.nil _))) s1 s2 (by simp only [List.length_append, List.length_cons]; omega)
          rintro v w5 hm
          have hO := hO3.step s4 h3
          have hm2 := hm.up hO (sub_up h3 s3 hO3.size)
          have hs := St.nil w5
          repeat' (first|refine vs (k:=?_)|refine Nx.h ?_|fail)
          first | refine rt (hq := ?_) | refine rt' (hq := ?_)
          exact hm2
      · rw [cond_true] at hc
        obtain ⟨r', hr', rfl⟩ := Option.map_eq_some_iff.1 hc
        repeat' (first|refine Nx.h ?_|refine qCt ?_|fail)
        refine dr [10] hs (k := ?_); intro hX w hs
        refine tk 0 hX (k := ?_)
        refine tk 1 hX (k := ?_)
        refine tk 2 hX (k := ?_)
        refine tk 3 hX (k := ?_)
        refine tk 4 hX (k := ?_)
        refine tk 5 hX (k := ?_)
        refine tk 6 hX (k := ?_)
        refine dt 7 hX (k := ?_)
        have ho1 : Only [] wB _ := hs.onlyF [] (by simp [h5, hb, hQ]) (by simp [D0])
        have hlw := hl.keep ho1 (Nodes.nil _) (by simp)
        have hrw := hr.keep ho1 (Nodes.nil _) (by simp)
        have hbw := hs.get (At.tail At.head)
        have hTw := hs.get (At.tail (At.tail At.head))
        have hQw := hs.get At.head
        have hO1 := h4.step ho1 (by simp)
        (with_reducible apply xs_call); exact rfl; exact rfl; exact cut_ret tb p0 n0 x k r2 r' pr fr _ hTw hrw hndr (by omega) hr'
        rintro v w4 hk
        obtain ⟨p', hv⟩ : ∃ p', v = .pointer p' := by obtain ⟨p', _, hv, _⟩ := hk; exact ⟨p', hv⟩
        subst hv
        obtain ⟨_, _, _, _, _, _, k4⟩ := id hk
        have hT1 := head_keep hTw k4 hrw.nodes
        have hb1 := k4.block hbw (fun h => by simp [h] at h2)
        have hq1 := k4.block hQw (nodes_q hrw.nodes hQw)
        clear hs
        have hs := (((St.nil w4).track hT1 (by simp)).track hb1 (by simpa using hbt)).track hq1 (by simp [n1, n2])
        repeat' (first|refine Nx.h ?_|fail)
        refine dn (k := ?_)
        refine tk 8 hX (k := ?_)
        refine tk 9 hX (k := ?_)
        refine dt 10 hX (k := ?_)
        repeat' (first|(refine st hs (k:=?_);intro w hs)|refine Nx.h ?_|fail)
        refine dn (k := ?_)
        refine en (k := ?_)
        repeat' (first|refine vs (k:=?_)|refine qRg ?_|refine Nx.h ?_|fail)
        have ho3 : Only [b] w4 _ := hs.onlyF [b] (by simp [hT1, hq1]) (by simp [D0])
        obtain ⟨fp2, s1, s2, s3, s4⟩ := graftR hbw hlw hrw.nodes h2 hk ho3 (hs.get (At.tail At.head))
        have hln := cut_len x k r2 r' hr'
        (with_reducible apply xs_call); exact rfl; exact rfl; exact mend_ret tb p0 n0 _ y2 _ c2 _ _ _ (head_keep hT1 ho3 (Nodes.cons hb1 (Nodes.nil _))) s1 s2 (by simp only [List.length_append, List.length_cons]; omega)
        rintro v w3 hm
        have hm2 := hm.up (hO1.step s4 h3) (sub_up h3 s3 hO1.size)
        have hs := St.nil w3
        repeat' (first|refine vs (k:=?_)|refine Nx.h ?_|fail)
        first | refine rt (hq := ?_) | refine rt' (hq := ?_)
        exact hm2
    · rw [cond_true] at hc
      cases l with
      | nil => cases hc
      | node ll z lr lc =>
      simp only [RB.isNil, cond_false] at hc
      have hl0 := hl1
      obtain ⟨u, avu, pll, plr, fll, flr, rfl, rfl, hu, hau, hll, hlr⟩ := hl1
      have hub : u ≠ b := fun e => by subst e; rw [hf] at hnd; simp at hnd
      have hs := ((St.nil w1).track hb1 (by simp)).track hu (by simpa using hub)
      repeat' (first|refine Nx.h ?_|refine qCt ?_|fail)
      refine xc_cutN (fun _ : Unit => [(0, .pointer (some ⟨tb, 0, none⟩)), (1, .pointer (some ⟨b, 0, none⟩)), (5, .pointer (some ⟨bq, 0, none⟩)), (6, .pointer none), (34, .bool (!lc && !ll.red))]) (fun _ w => HasQ bq x.1 w0 tb p0 n0 fp (.node (.node ll z lr lc) y r c) (some ⟨b, 0, none⟩) w) ?_ ?_
      · repeat' (first|refine vs (k:=?_)|refine qRg ?_|fail)
        have ho2 : Only [] w1 _ := hs.onlyF [] (by simp [hb1, hu]) (by simp [D0])
        (with_reducible apply xs_call); exact rfl; exact rfl; exact isRed_ret _ _ _ _ (hl0.keep ho2 (Nodes.nil _) (by simp))
        rintro v w' ⟨rfl, ho⟩; replace hs := hs.call0 ho
        rw [RB.red_node]
        cases lc
        · repeat' (first|refine vs (k:=?_)|fail)
          have ho2 : Only [] w1 _ := hs.onlyF [] (by simp [hb1, hu]) (by simp [D0])
          (with_reducible apply xs_call); exact rfl; exact rfl; exact isRed_ret _ _ _ _ (hll.keep ho2 (Nodes.nil _) (by simp))
          rintro v w' ⟨rfl, ho⟩; replace hs := hs.call0 ho
          generalize hq2 : ll.red = q2
          repeat' (first|refine vs (k:=?_)|refine Nx.h ?_|fail)
          exact cutN_normal () (by (repeat (first | exact agree_nil | (apply agree_cons; exact rfl)))) (hH.only (hs.onlyF [] (by simp [hb1, hu]) (by simp [D0])))
        · repeat' (first|refine vs (k:=?_)|refine ps (k:=?_)|refine Nx.h ?_|fail)
          exact cutN_normal () (by (repeat (first | exact agree_nil | (apply agree_cons; exact rfl)))) (hH.only (hs.onlyF [] (by simp [hb1, hu]) (by simp [D0])))
      clear hH hs hb1 hl0 hu hau hll hlr hr1 hT1
      rintro _ env w hH
      obtain ⟨d, hd⟩ : ∃ d, RB.downL (.node (.node ll z lr lc) y r c) = some d := by
        cases hd : RB.downL (.node (.node ll z lr lc) y r c) with
        | none => rw [hd] at hc; cases hc
        | some d => exact ⟨d, rfl⟩
      rw [hd] at hc
      have hdl := downL_list hd
      refine xc_cutN (fun s : Option Addr => [(0, .pointer (some ⟨tb, 0, none⟩)), (1, .pointer s), (5, .pointer (some ⟨bq, 0, none⟩)), (6, .pointer none)]) (fun s w => HasQ bq x.1 w0 tb p0 n0 fp d s w) ?_ ?_
      · unfold RB.downL at hd
        rw [RB.left_node, RB.red_node, RB.left_node] at hd
        generalize hq : (!lc && !ll.red) = q at *
        cases q
        · repeat' (first|refine Nx.h ?_|refine qCf ?_|fail)
          cases hd
          exact cutN_normal _ (by (repeat (first | exact agree_nil | (apply agree_cons; exact rfl)))) hH
        · rw [cond_true] at hd
          cases hbo : RB.both (.node (.node ll z lr lc) y r c)
          · rw [hbo] at hd; cases hd
          rw [hbo, cond_true] at hd
          cases hd
          obtain ⟨⟨⟨fp1, h1, h2, h3, h4⟩, h5⟩, hQ⟩ := hH
          have hs := St.nil w
          repeat' (first|refine vs (k:=?_)|refine qRg ?_|refine qCt ?_|fail)
          (with_reducible apply xs_call); exact rfl; exact rfl; exact redLeft_ret tb p0 n0 _ _ _ _ h5 h1 h2 hlen hbo
          rintro v w' hv
          obtain ⟨p', rfl, hH⟩ := HasQ.next h1 h3 h4 h5 hQ hv
          have hs := St.nil w'
          repeat' (first|refine vs (k:=?_)|refine Nx.h ?_|fail)
          exact cutN_normal p' (by (repeat (first | exact agree_nil | (apply agree_cons; exact rfl)))) hH
      clear hH
      rintro p1 env w hH
      cases d with
      | nil => cases hc
      | node l1 x1 r1 c1 =>
      obtain ⟨l', hl', rfl⟩ := Option.map_eq_some_iff.1 hc
      obtain ⟨⟨⟨fp1, ⟨b, av, pl, pr, fl, fr, rfl, rfl, hb, hav, hl, hr⟩, h2, h3, h4⟩, h5⟩, hQ⟩ := hH
      have hbt := head_ne h5 hb
      have n1 := blocks_ne hQ hb (by decide)
      have n2 := blocks_ne hQ h5 (by decide)
      have hs := (((St.nil w).track h5 (by simp)).track hb (by simpa using hbt)).track hQ (by simp [n1, n2])
      rw [← hdl] at hlen
      simp only [RB.list, List.length_append, List.length_cons] at hlen
      repeat' (first|refine Nx.h ?_|fail)
      refine dr [10] hs (k := ?_); intro hX wD hs
      refine tk 0 hX (k := ?_)
      refine tk 1 hX (k := ?_)
      refine tk 2 hX (k := ?_)
      refine tk 3 hX (k := ?_)
      refine tk 4 hX (k := ?_)
      refine tk 5 hX (k := ?_)
      refine tk 6 hX (k := ?_)
      refine dt 7 hX (k := ?_)
      have ho1 : Only [] w _ := hs.onlyF [] (by simp [h5, hb, hQ]) (by simp [D0])
      have hQw := hs.get At.head
      have hlw := hl.keep ho1 (Nodes.nil _) (by simp)
      have hrw := hr.keep ho1 (Nodes.nil _) (by simp)
      have hbw := hs.get (At.tail At.head)
      have hTw := head_keep h5 ho1 (Nodes.nil _)
      (with_reducible apply xs_call); exact rfl; exact rfl; exact cut_ret tb p0 n0 x k l1 l' pl fl _ hTw hlw (by simp only [List.nodup_cons, List.nodup_append] at h2; exact h2.2.1) (by omega) hl'
      rintro v w' hk
      obtain ⟨p', hv⟩ : ∃ p', v = .pointer p' := by obtain ⟨p', _, hv, _⟩ := hk; exact ⟨p', hv⟩
      subst hv
      obtain ⟨_, _, _, _, _, _, k4⟩ := id hk
      have hT1 := head_keep hTw k4 hlw.nodes
      have hb1 := k4.block hbw (fun h => by simp [h] at h2)
      have hq1 := k4.block hQw (nodes_q hlw.nodes hQw)
      clear hs
      have hs := (((St.nil w').track hT1 (by simp)).track hb1 (by simpa using hbt)).track hq1 (by simp [n1, n2])
      repeat' (first|refine Nx.h ?_|fail)
      refine dn (k := ?_)
      refine tk 8 hX (k := ?_)
      refine tk 9 hX (k := ?_)
      refine dt 10 hX (k := ?_)
      repeat' (first|(refine st hs (k:=?_);intro w hs)|refine Nx.h ?_|fail)
      refine dn (k := ?_)
      refine en (k := ?_)
      repeat' (first|refine vs (k:=?_)|refine qRg ?_|refine Nx.h ?_|fail)
      have ho3 : Only [b] w' _ := hs.onlyF [b] (by simp [hT1, hq1]) (by simp [D0])
      obtain ⟨fp2, s1, s2, s3, s4⟩ := graftL hbw hlw.nodes hrw h2 hk ho3 (hs.get (At.tail At.head))
      have hln := cut_len x k l1 l' hl'
      (with_reducible apply xs_call); exact rfl; exact rfl; exact mend_ret tb p0 n0 _ x1 _ c1 _ _ _ (head_keep hT1 ho3 (Nodes.cons hb1 (Nodes.nil _))) s1 s2 (by simp only [List.length_append, List.length_cons]; omega)
      rintro v w3 hm
      have hO := (h4.step ho1 (by simp)).step s4 h3
      have hm2 := hm.up hO (sub_up h3 s3 (h4.step ho1 (by simp)).size)
      have hs := St.nil w3
      repeat' (first|refine vs (k:=?_)|refine Nx.h ?_|fail)
      first | refine rt (hq := ?_) | refine rt' (hq := ?_)
      exact hm2
end Go.Proofs.YtilajmcellffiaaGreatDoorX.IB
